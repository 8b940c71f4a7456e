/- Part 11 of the proof: the abstract machine, what the functions compute, and plain laws over that. -/
import Derived.Test.YtmbnifmpbafcjaaGreatDoorIp10
set_option linter.all false
set_option linter.unusedSimpArgs false
set_option linter.unusedVariables false
set_option linter.unusedSectionVars false
namespace Go.AM.SY
open Go Go.AM Go.Proofs Go.RowKit
namespace F73
def cons:List (Nat×Con):=[]
def exts:List (Nat×Ext):=[]
def h:List (Nat×Nat×Hint):=[(74,2,{ live:=[0,1,7,8],out:=some [4] })]
noncomputable def e (M:Nat):Env:=env cons exts h M
structure S74_2 where
 (d1:D) (i2 i3 i4:Int)
inductive X74_2 where
 | e0 (f:D) (g j:Int)
 | e1 (f:Int)
def st74_2 (M:Nat):S74_2→(S74_2→Option D)→(X74_2→Option D)→Option D
 | ⟨g,m,f,j⟩,rec,K=>(cond (ltI f m) (cond (inb f g.elems.length) (cond (eqI ((ix g.elems f.toNat).at 0).i j) (K (.e0 g f j)) (rec ⟨g,m,(ad .i64 f 1),j⟩)) none) (K (.e1 j)))
def ex74_2 (k:Kont):X74_2→Option D
 | .e0 g f j=>k .ret ((us 4 ((vi f)::(us 14 [])))) [(.var (.int .i64) (vi j)),(.var (.struct [3,3,9]) (vk (.struct [3,3,9]) (ix g.elems f.toNat)))]
 | .e1 f=>k (.exit 0) ((us 19 [])) [(.var (.int .i64) (vi f))]
def lv74_2:S74_2→List Leaf
 | ⟨f,g,j,m⟩=>[.d f,.i g,.i j,.i m]
def of74_2:List Leaf→Option S74_2
 | [.d f,.i g,.i j,.i m]=>some ⟨f,g,j,m⟩
 | _=>none
def ps74_2:List PV:=((.d (.slice 49) .x)::(.func 75 [] [(.ptr 0 [] (.int .i64))])::(up 5 ((.d (.int .i64) (.int .i64))::(.d (.int .i64) (.int .i64))::(up 10 []))))
def qs74_2:List PO:=[(.var (.int .i64) (.d (.int .i64) (.int .i64)))]
noncomputable def t (M:Nat):List Ent:=⟨74,10,1,2,sumS [0,1,7,8] ps74_2 qs74_2 [] of74_2 (st74_2 M) ex74_2 M⟩::[]
theorem t_ok (M:Nat):AllOk (e M) (tblOf (t M)):=AllOk.addS (n0:=1) (lv:=lv74_2) AllOk.nil (by kernel_rfl) rfl (by intro ls s h;unfold of74_2 at h;(repeat' split at h)<;>simp at h;subst h;rfl) (by intro s;kernel_rfl) (by intro s;kernel_rfl) (by intro s nx k;kernel_rfl)
def s (M:Nat) (p0:D) (p1:Int):Option D:=
 (goS (st74_2 M) M ⟨p0,(nI p0.elems.length),0,p1⟩ fun x=>match x with | .e0 j f g=>(some (di f)) | .e1 g=>(some (di (-1))))
theorem run (M:Nat) (p0:D) (p1:Int):callS (e M) (tblOf (t M)) 12 (.fn 73) [.d (.slice 49) p0,.d (.int .i64) (di p1)] [] (fun v H=>finish ty [3] v H)=s M p0 p1:=by kernel_rfl
def c:Con:={ run:=fun ds=>match ds with | [p0,p1]=>s FUEL p0 p1.i | _=>none,plain:=true }
theorem ok:ConOk (73,c):=mkC Tryz.f73 [(.slice 49),(.int .i64)] [3] (by kernel_rfl) (by kernel_rfl) (by kernel_rfl) (by kernel_rfl) allNil allNil (t_ok FUEL) fun a=>run FUEL a.1 a.2.1
end F73
namespace F27
def cons:List (Nat×Con):=[(73,F73.c)]
def exts:List (Nat×Ext):=[]
def h:List (Nat×Nat×Hint):=[(27,4,{ live:=[0,1,5,6,12,13,14],rows:=[(6,59)],out:=some [0,1,5,6] }),(27,10,{ live:=[0,5,6,32,33,34],rows:=[(6,59)],out:=some [6] })]
noncomputable def e (M:Nat):Env:=env cons exts h M
structure S4 where
 (d1 d2:D) (n3 n4:Nat) (d5:D) (i6 i7:Int) (b8:Bool) (l9:List D)
inductive X4 where
 | e0 (f g:D) (j m:Nat) (o:Bool) (p:List D)
def st4 (M:Nat):S4→(S4→Option D)→(X4→Option D)→Option D
 | ⟨o,m,p,g,j,q,f,r,u⟩,rec,K=>(cond (ltI f q) (cond (inb f j.elems.length) (bd (F73.s FUEL m ((ix j.elems f.toNat).at 0).i) fun w=>(cond (ltI w.i 0) (cond (mx (g+1)) (rec ⟨o,m,0,(g+1),j,q,(ad .i64 f 1),(r||true),(ap ((u.drop p).take g) [(da [(da [((ix j.elems f.toNat).at 0),(di 0),(dS (bs []))]),(db true)])])⟩) none) (rec ⟨o,m,p,g,j,q,(ad .i64 f 1),r,u⟩))) none) (K (.e0 o m p g r u)))
def ex4 (k:Kont):X4→Option D
 | .e0 f g j m o p=>k (.exit 0) ((vk (.slice 49) f)::(vk (.slice 49) g)::(us 3 ((vk .func (D.fn 73))::(.sref 0 j m)::(us 53 [])))) [(.row 59 true o p)]
def lv4:S4→List Leaf
 | ⟨f,g,j,m,o,p,q,r,u⟩=>[.d f,.d g,.n j,.n m,.d o,.i p,.i q,.b r,.l u]
def of4:List Leaf→Option S4
 | [.d f,.d g,.n j,.n m,.d o,.i p,.i q,.b r,.l u]=>some ⟨f,g,j,m,o,p,q,r,u⟩
 | _=>none
def ps4:List PV:=((.d (.slice 49) .x)::(.d (.slice 49) .x)::(up 3 ((.d .func (.fn 73))::(.sref 0)::(up 5 ((.d (.slice 49) .x)::(.d (.int .i64) (.int .i64))::(.d (.int .i64) (.int .i64))::(up 45 []))))))
def qs4:List PO:=[(.row 59 true)]
noncomputable def t1 (M:Nat):List Ent:=⟨27,11,0,4,sumS [0,1,5,6,12,13,14] ps4 qs4 [(6,0)] of4 (st4 M) ex4 M⟩::[]
theorem t1_ok (M:Nat):AllOk (e M) (tblOf (t1 M)):=AllOk.addS (n0:=1) (lv:=lv4) AllOk.nil (by kernel_rfl) rfl (by intro ls s h;unfold of4 at h;(repeat' split at h)<;>simp at h;subst h;rfl) (by intro s;kernel_rfl) (by intro s;kernel_rfl) (by intro s nx k;kernel_rfl)
structure S10 where
 (d11:D) (n12 n13:Nat) (d14:D) (i15 i16:Int) (b17:Bool) (l18:List D)
inductive X10 where
 | e0 (f g:Nat) (j:Bool) (m:List D)
def st10 (M:Nat):S10→(S10→Option D)→(X10→Option D)→Option D
 | ⟨m,o,g,j,p,f,q,r⟩,rec,K=>(cond (ltI f p) (cond (inb f j.elems.length) (bd (F73.s FUEL m ((ix j.elems f.toNat).at 0).i) fun u=>(cond (ltI u.i 0) (cond (mx (g+1)) (rec ⟨m,0,(g+1),j,p,(ad .i64 f 1),(q||true),(ap ((r.drop o).take g) [(da [(ix j.elems f.toNat),(db false)])])⟩) none) (cond (inb u.i m.elems.length) (bd (match D.eqv ty eqDepth (ix m.elems (u.i).toNat) (ix j.elems f.toNat) (.struct [3,3,9]) with | some z=>some (.bool (!z)) | none=>none) fun w=>(cond w.b (cond (mx (g+1)) (rec ⟨m,0,(g+1),j,p,(ad .i64 f 1),(q||true),(ap ((r.drop o).take g) [(da [(ix j.elems f.toNat),(db false)])])⟩) none) (rec ⟨m,o,g,j,p,(ad .i64 f 1),q,r⟩))) none))) none) (K (.e0 o g q r)))
def ex10 (k:Kont):X10→Option D
 | .e0 f g j m=>k (.exit 2) ((us 6 ((.sref 0 f g)::(us 53 [])))) [(.row 59 true j m)]
def lv10:S10→List Leaf
 | ⟨f,g,j,m,o,p,q,r⟩=>[.d f,.n g,.n j,.d m,.i o,.i p,.b q,.l r]
def of10:List Leaf→Option S10
 | [.d f,.n g,.n j,.d m,.i o,.i p,.b q,.l r]=>some ⟨f,g,j,m,o,p,q,r⟩
 | _=>none
def ps10:List PV:=((.d (.slice 49) .x)::(up 4 ((.d .func (.fn 73))::(.sref 0)::(up 25 ((.d (.slice 49) .x)::(.d (.int .i64) (.int .i64))::(.d (.int .i64) (.int .i64))::(up 25 []))))))
def qs10:List PO:=[(.row 59 true)]
noncomputable def t (M:Nat):List Ent:=⟨27,11,0,10,sumS [0,5,6,32,33,34] ps10 qs10 [(6,0)] of10 (st10 M) ex10 M⟩::t1 M
theorem t_ok (M:Nat):AllOk (e M) (tblOf (t M)):=AllOk.addS (n0:=1) (lv:=lv10) (t1_ok M) (by kernel_rfl) rfl (by intro ls s h;unfold of10 at h;(repeat' split at h)<;>simp at h;subst h;rfl) (by intro s;kernel_rfl) (by intro s;kernel_rfl) (by intro s nx k;kernel_rfl)
def s (M:Nat) (p0:D) (p1:D):Option D:=
 (goS (st4 M) M ⟨p0,p1,0,0,p0,(nI p0.elems.length),0,false,[]⟩ fun x=>match x with | .e0 j f m o p q=>(goS (st10 M) M ⟨j,m,o,f,(nI f.elems.length),0,p,q⟩ fun x=>match x with | .e0 r u w g=>(cond ((decide (u=g.length))&&(decide (r=0))) (some (.slice w g)) none)))
theorem run (M:Nat) (p0:D) (p1:D):callS (e M) (tblOf (t M)) 12 (.fn 27) [.d (.slice 49) p0,.d (.slice 49) p1] [] (fun v H=>finishFresh ty [56] v H)=s M p0 p1:=by kernel_rfl
def c:Con:={ run:=fun ds=>match ds with | [p0,p1]=>s FUEL p0 p1 | _=>none,fresh:=true }
theorem ok:ConOk (27,c):=mkF Tryz.f27 [(.slice 49),(.slice 49)] [56] (by kernel_rfl) (by kernel_rfl) (by kernel_rfl) (allCons F73.ok allNil) allNil (t_ok FUEL) fun a=>run FUEL a.1 a.2.1
end F27
namespace F50
def k0_:K:=(.struct [22,3,3])
def k1_:K:=(.struct [3,9,9,4,3,66])
def cons:List (Nat×Con):=[]
def exts:List (Nat×Ext):=[]
def h:List (Nat×Nat×Hint):=[(50,3,{ live:=[3,5,9,10,11],rows:=[(5,3)],out:=some [5] }),(78,2,{ live:=[0,1,7,8],out:=some [4] })]
def q0_:PO:=(.var k0_ (.d k0_ .x))
noncomputable def e (M:Nat):Env:=env cons exts h M
structure S78_2 where
 (d10:D) (i11 i12:Int) (d13 d14:D) (b15:Bool) (l16:List D) (d17:D)
inductive X78_2 where
 | e0 (f:D) (g:Int) (j m:D) (o:Bool) (p:List D) (q:D)
 | e1 (f g:D) (j:Bool) (m:List D) (o:D)
def st78_2 (M:Nat):S78_2→(S78_2→Option D)→(X78_2→Option D)→Option D
 | ⟨g,r,f,m,o,p,q,j⟩,rec,K=>(cond (ltI f r) (cond (inb f g.elems.length) (cond (eqI ((ix g.elems f.toNat).at 0).i (j.at 0).i) (K (.e0 g f m o p q j)) (rec ⟨g,r,(ad .i64 f 1),m,o,p,q,j⟩)) none) (K (.e1 m o p q j)))
def ex78_2 (k:Kont):X78_2→Option D
 | .e0 g f j m o p q=>k .ret ((us 4 ((vi f)::(us 14 [])))) [(.var k0_ (vk k0_ j)),(.var k0_ (vk k0_ m)),(.row 3 true o p),(.var k1_ (vk k1_ q)),(.var k1_ (vk k1_ (ix g.elems f.toNat)))]
 | .e1 f g j m o=>k (.exit 0) ((us 19 [])) [(.var k0_ (vk k0_ f)),(.var k0_ (vk k0_ g)),(.row 3 true j m),(.var k1_ (vk k1_ o))]
def lv78_2:S78_2→List Leaf
 | ⟨f,g,j,m,o,p,q,r⟩=>[.d f,.i g,.i j,.d m,.d o,.b p,.l q,.d r]
def of78_2:List Leaf→Option S78_2
 | [.d f,.i g,.i j,.d m,.d o,.b p,.l q,.d r]=>some ⟨f,g,j,m,o,p,q,r⟩
 | _=>none
def ps78_2:List PV:=((.d (.slice 68) .x)::(.func 104 [] [(.ptr 3 [] k1_)])::(up 5 ((.d (.int .i64) (.int .i64))::(.d (.int .i64) (.int .i64))::(up 10 []))))
def qs78_2:List PO:=[q0_,q0_,(.row 3 true),(.var k1_ (.d k1_ .x))]
noncomputable def t1 (M:Nat):List Ent:=⟨78,9,4,2,sumS [0,1,7,8] ps78_2 qs78_2 [] of78_2 (st78_2 M) ex78_2 M⟩::[]
theorem t1_ok (M:Nat):AllOk (e M) (tblOf (t1 M)):=AllOk.addS (n0:=4) (lv:=lv78_2) AllOk.nil (by kernel_rfl) rfl (by intro ls s h;unfold of78_2 at h;(repeat' split at h)<;>simp at h;subst h;rfl) (by intro s;kernel_rfl) (by intro s;kernel_rfl) (by intro s nx k;kernel_rfl)
structure S3 where
 (n1 n2:Nat) (d3:D) (i4 i5:Int) (d6 d7:D) (b8:Bool) (l9:List D)
inductive X3 where
 | e0 (f g:Nat) (j m:D) (o:Bool) (p:List D)
def st3 (M:Nat):S3→(S3→Option D)→(X3→Option D)→Option D
 | ⟨m,f,j,o,g,A,p,B,C⟩,rec,K=>(cond (ltI g o) (cond (inb g j.elems.length) (goS (st78_2 M) M ⟨(p.at 0),(nI (p.at 0).elems.length),0,A,p,B,C,(ix j.elems g.toNat)⟩ fun x=>match x with | .e0 F E q r u w y=>(cond (!(geI E 0)) (cond (mx (f+1)) (rec ⟨0,(f+1),j,o,(ad .i64 g 1),q,r,(u||true),(ap ((w.drop m).take f) [(y.at 0)])⟩) none) (rec ⟨m,f,j,o,(ad .i64 g 1),q,r,u,w⟩)) | .e1 q r u w y=>(cond (mx (f+1)) (rec ⟨0,(f+1),j,o,(ad .i64 g 1),q,r,(u||true),(ap ((w.drop m).take f) [(y.at 0)])⟩) none)) none) (K (.e0 m f A p B C)))
def ex3 (k:Kont):X3→Option D
 | .e0 f g j m o p=>k (.exit 0) ((us 5 ((.sref 2 f g)::(us 21 [])))) [(.var k0_ (vk k0_ j)),(.var k0_ (vk k0_ m)),(.row 3 true o p)]
def lv3:S3→List Leaf
 | ⟨f,g,j,m,o,p,q,r,u⟩=>[.n f,.n g,.d j,.i m,.i o,.d p,.d q,.b r,.l u]
def of3:List Leaf→Option S3
 | [.n f,.n g,.d j,.i m,.i o,.d p,.d q,.b r,.l u]=>some ⟨f,g,j,m,o,p,q,r,u⟩
 | _=>none
def ps3:List PV:=((up 3 ((.ptr 1 [] k0_)::(up 1 ((.sref 2)::(up 3 ((.d (.slice 68) .x)::(.d (.int .i64) (.int .i64))::(.d (.int .i64) (.int .i64))::(up 15 []))))))))
def qs3:List PO:=[q0_,q0_,(.row 3 true)]
noncomputable def t (M:Nat):List Ent:=⟨50,11,0,3,sumS [3,5,9,10,11] ps3 qs3 [(5,2)] of3 (st3 M) ex3 M⟩::t1 M
theorem t_ok (M:Nat):AllOk (e M) (tblOf (t M)):=AllOk.addS (n0:=3) (lv:=lv3) (t1_ok M) (by kernel_rfl) rfl (by intro ls s h;unfold of3 at h;(repeat' split at h)<;>simp at h;subst h;rfl) (by intro s;kernel_rfl) (by intro s;kernel_rfl) (by intro s nx k;kernel_rfl)
def s (M:Nat) (p0:D) (p1:D):Option D:=
 (goS (st3 M) M ⟨0,0,(p0.at 0),(nI (p0.at 0).elems.length),0,p0,p1,false,[]⟩ fun x=>match x with | .e0 g j o p m f=>(cond ((decide (j=f.length))&&(decide (g=0))) (some (.slice m f)) none))
theorem run (M:Nat) (p0:D) (p1:D):callS (e M) (tblOf (t M)) 12 (.fn 50) [.d (.struct [22,3,3]) p0,.d (.struct [22,3,3]) p1] [] (fun v H=>finishFresh ty [81] v H)=s M p0 p1:=by kernel_rfl
def c:Con:={ run:=fun ds=>match ds with | [p0,p1]=>s FUEL p0 p1 | _=>none,fresh:=true }
theorem ok:ConOk (50,c):=mkF Tryz.f50 [(.struct [22,3,3]),(.struct [22,3,3])] [81] (by kernel_rfl) (by kernel_rfl) (by kernel_rfl) allNil allNil (t_ok FUEL) fun a=>run FUEL a.1 a.2.1
end F50
namespace F122
def cons:List (Nat×Con):=[]
def exts:List (Nat×Ext):=[]
def h:List (Nat×Nat×Hint):=[(122,4,{ live:=[0,1,12,13] })]
noncomputable def e (M:Nat):Env:=env cons exts h M
structure S4 where
 (d1 d2:D) (i3 i4:Int)
inductive X4 where
 | e0 (f g:D) (j m:Int)
 | e1 (f g:D) (j m:Int)
def st4 (M:Nat):S4→(S4→Option D)→(X4→Option D)→Option D
 | ⟨g,j,m,f⟩,rec,K=>(cond (ltI f m) (cond (inb f g.elems.length) (cond (inb f j.elems.length) (cond (!(eqS (ix g.elems f.toNat).s (ix j.elems f.toNat).s)) (K (.e0 g j m f)) (rec ⟨g,j,m,(ad .i64 f 1)⟩)) none) none) (K (.e1 g j m f)))
def ex4 (k:Kont):X4→Option D
 | .e0 g j m f=>k .ret ((vk (.slice 9) g)::(vk (.slice 9) j)::(us 2 ((vb false)::(vi f)::(us 6 ((vi m)::(vi f)::(vb (ltI f m))::(vi f)::(vk (.slice 9) g)::(vi f)::(.cptr .str (ix g.elems f.toNat))::(vk .str (ix g.elems f.toNat))::(vk (.slice 9) j)::(vi f)::(.cptr .str (ix j.elems f.toNat))::(vk .str (ix j.elems f.toNat))::(vb (!(eqS (ix g.elems f.toNat).s (ix j.elems f.toNat).s)))::(us 1 [])))))) []
 | .e1 j m f g=>k (.exit 0) ((vk (.slice 9) j)::(vk (.slice 9) m)::(us 10 ((vi f)::(vi g)::(vb (ltI g f))::(us 11 [])))) []
def lv4:S4→List Leaf
 | ⟨f,g,j,m⟩=>[.d f,.d g,.i j,.i m]
def of4:List Leaf→Option S4
 | [.d f,.d g,.i j,.i m]=>some ⟨f,g,j,m⟩
 | _=>none
def ps4:List PV:=((.d (.slice 9) .x)::(.d (.slice 9) .x)::(up 10 ((.d (.int .i64) (.int .i64))::(.d (.int .i64) (.int .i64))::(up 12 []))))
def qs4:List PO:=[]
noncomputable def t (M:Nat):List Ent:=⟨122,11,0,4,sumS [0,1,12,13] ps4 qs4 [] of4 (st4 M) ex4 M⟩::[]
theorem t_ok (M:Nat):AllOk (e M) (tblOf (t M)):=AllOk.addS (n0:=0) (lv:=lv4) AllOk.nil (by kernel_rfl) rfl (by intro ls s h;unfold of4 at h;(repeat' split at h)<;>simp at h;subst h;rfl) (by intro s;kernel_rfl) (by intro s;kernel_rfl) (by intro s nx k;kernel_rfl)
def s (M:Nat) (p0:D) (p1:D):Option D:=
 (cond (neI (nI p0.elems.length) (nI p1.elems.length)) (some (db false)) (goS (st4 M) M ⟨p0,p1,(nI p0.elems.length),0⟩ fun x=>match x with | .e0 f g j m=>(some (db false)) | .e1 f g j m=>(some (db true))))
theorem run (M:Nat) (p0:D) (p1:D):callS (e M) (tblOf (t M)) 12 (.fn 122) [.d (.slice 9) p0,.d (.slice 9) p1] [] (fun v H=>finish ty [4] v H)=s M p0 p1:=by kernel_rfl
def c:Con:={ run:=fun ds=>match ds with | [p0,p1]=>s FUEL p0 p1 | _=>none,plain:=true }
theorem ok:ConOk (122,c):=mkC Tryz.f122 [(.slice 9),(.slice 9)] [4] (by kernel_rfl) (by kernel_rfl) (by kernel_rfl) (by kernel_rfl) allNil allNil (t_ok FUEL) fun a=>run FUEL a.1 a.2.1
end F122
namespace F72
def cons:List (Nat×Con):=[(122,F122.c)]
def exts:List (Nat×Ext):=[]
def h:List (Nat×Nat×Hint):=[]
noncomputable def e (M:Nat):Env:=env cons exts h M
def s (M:Nat) (p0:D) (p1:D):Option D:=
 (cond (eqI (p0.at 0).i (p1.at 0).i) (cond (eqS (p0.at 1).s (p1.at 1).s) (cond (eqS (p0.at 2).s (p1.at 2).s) (bd (match D.eqv ty eqDepth (p0.at 3) (p1.at 3) .bool with | some z=>some (.bool z) | none=>none) fun f=>(cond f.b (cond (eqI (p0.at 4).i (p1.at 4).i) (bd (F122.s FUEL (p0.at 5) (p1.at 5)) fun g=>(some g)) (some (db false))) (some (db false)))) (some (db false))) (some (db false))) (some (db false)))
theorem run (M:Nat) (p0:D) (p1:D):callS (e M) (tblOf []) 12 (.fn 72) [.d (.struct [3,9,9,4,3,66]) p0,.d (.struct [3,9,9,4,3,66]) p1] [] (fun v H=>finish ty [4] v H)=s M p0 p1:=by kernel_rfl
def c:Con:={ run:=fun ds=>match ds with | [p0,p1]=>s FUEL p0 p1 | _=>none,plain:=true }
theorem ok:ConOk (72,c):=mkC Tryz.f72 [(.struct [3,9,9,4,3,66]),(.struct [3,9,9,4,3,66])] [4] (by kernel_rfl) (by kernel_rfl) (by kernel_rfl) (by kernel_rfl) (allCons F122.ok allNil) allNil AllOk.nil fun a=>run FUEL a.1 a.2.1
end F72
namespace F23
def k0_:K:=(.struct [22,3,3])
def k1_:K:=(.struct [3,9,9,4,3,66])
def cons:List (Nat×Con):=[(72,F72.c)]
def exts:List (Nat×Ext):=[]
def h:List (Nat×Nat×Hint):=[(71,4,{ live:=[1,2,15,16,17] })]
def q0_:PO:=(.var k0_ (.d k0_ .x))
noncomputable def e (M:Nat):Env:=env cons exts h M
structure S71_4 where
 (d1 d2:D) (i3 i4:Int) (d5 d6:D)
inductive X71_4 where
 | e0 (f g:D) (j m:Int) (o p q:D)
 | e1 (f g:D) (j m:Int) (o p:D)
def st71_4 (M:Nat):S71_4→(S71_4→Option D)→(X71_4→Option D)→Option D
 | ⟨g,j,m,f,o,p⟩,rec,K=>(cond (ltI f m) (cond (inb f j.elems.length) (cond (inb f g.elems.length) (bd (F72.s FUEL (ix j.elems f.toNat) (ix g.elems f.toNat)) fun q=>(cond (!q.b) (K (.e0 g j m f o p q)) (rec ⟨g,j,m,(ad .i64 f 1),o,p⟩))) none) none) (K (.e1 g j m f o p)))
def ex71_4 (k:Kont):X71_4→Option D
 | .e0 g j m f p q o=>k .ret ((us 1 ((vk (.slice 68) g)::(vk .func (D.fn 72))::(us 3 ((vb false)::(vi f)::(.ptr 2 [] k1_)::(.ptr 3 [] k1_)::(us 5 ((vk (.slice 68) j)::(vi m)::(vi f)::(vb (ltI f m))::(vi f)::(.cptr k1_ (ix j.elems f.toNat))::(vk k1_ (ix j.elems f.toNat))::(vk (.slice 68) g)::(vi f)::(.cptr k1_ (ix g.elems f.toNat))::(vk k1_ (ix g.elems f.toNat))::(vk .func (D.fn 72))::(vk k1_ (ix j.elems f.toNat))::(vk k1_ (ix g.elems f.toNat))::(vk .bool o)::(vb (!o.b))::(us 1 [])))))))) [(.var k0_ (vk k0_ p)),(.var k0_ (vk k0_ q)),(.var k1_ (vk k1_ (ix j.elems f.toNat))),(.var k1_ (vk k1_ (ix g.elems f.toNat)))]
 | .e1 j m f g o p=>k (.exit 0) ((us 1 ((vk (.slice 68) j)::(vk .func (D.fn 72))::(us 12 ((vk (.slice 68) m)::(vi f)::(vi g)::(vb (ltI g f))::(us 13 [])))))) [(.var k0_ (vk k0_ o)),(.var k0_ (vk k0_ p))]
def lv71_4:S71_4→List Leaf
 | ⟨f,g,j,m,o,p⟩=>[.d f,.d g,.i j,.i m,.d o,.d p]
def of71_4:List Leaf→Option S71_4
 | [.d f,.d g,.i j,.i m,.d o,.d p]=>some ⟨f,g,j,m,o,p⟩
 | _=>none
def ps71_4:List PV:=((up 1 ((.d (.slice 68) .x)::(.d .func (.fn 72))::(up 12 ((.d (.slice 68) .x)::(.d (.int .i64) (.int .i64))::(.d (.int .i64) (.int .i64))::(up 14 []))))))
def qs71_4:List PO:=[q0_,q0_]
noncomputable def t (M:Nat):List Ent:=⟨71,10,2,4,sumS [1,2,15,16,17] ps71_4 qs71_4 [] of71_4 (st71_4 M) ex71_4 M⟩::[]
theorem t_ok (M:Nat):AllOk (e M) (tblOf (t M)):=AllOk.addS (n0:=2) (lv:=lv71_4) AllOk.nil (by kernel_rfl) rfl (by intro ls s h;unfold of71_4 at h;(repeat' split at h)<;>simp at h;subst h;rfl) (by intro s;kernel_rfl) (by intro s;kernel_rfl) (by intro s nx k;kernel_rfl)
def s (M:Nat) (p0:D) (p1:D):Option D:=
 (cond (eqI (p0.at 1).i (p1.at 1).i) (cond (eqI (p0.at 2).i (p1.at 2).i) (cond (neI (nI (p0.at 0).elems.length) (nI (p1.at 0).elems.length)) (some (db false)) (goS (st71_4 M) M ⟨(p1.at 0),(p0.at 0),(nI (p0.at 0).elems.length),0,p0,p1⟩ fun x=>match x with | .e0 f g j m o p q=>(some (db false)) | .e1 f g j m o p=>(some (db true)))) (some (db false))) (some (db false)))
theorem run (M:Nat) (p0:D) (p1:D):callS (e M) (tblOf (t M)) 12 (.fn 23) [.d (.struct [22,3,3]) p0,.d (.struct [22,3,3]) p1] [] (fun v H=>finish ty [4] v H)=s M p0 p1:=by kernel_rfl
def c:Con:={ run:=fun ds=>match ds with | [p0,p1]=>s FUEL p0 p1 | _=>none,plain:=true }
theorem ok:ConOk (23,c):=mkC Tryz.f23 [(.struct [22,3,3]),(.struct [22,3,3])] [4] (by kernel_rfl) (by kernel_rfl) (by kernel_rfl) (by kernel_rfl) (allCons F72.ok allNil) allNil (t_ok FUEL) fun a=>run FUEL a.1 a.2.1
end F23
namespace F24
def k0_:K:=(.struct [28,3,9,3,3,30])
def cons:List (Nat×Con):=[]
def exts:List (Nat×Ext):=[]
def h:List (Nat×Nat×Hint):=[(24,4,{ live:=[0,1,5] })]
noncomputable def e (M:Nat):Env:=env cons exts h M
structure S4 where
 (d1 d2:D) (i3:Int)
inductive X4 where
 | e0 (f g:D) (j:Int) (m:D)
 | e1 (f g:D) (j:Int)
def st4 (M:Nat):S4→(S4→Option D)→(X4→Option D)→Option D
 | ⟨g,j,f⟩,rec,K=>(cond (ltI f (nI g.elems.length)) (cond (inb f g.elems.length) (cond (inb f j.elems.length) (bd (match D.eqv ty eqDepth (ix g.elems f.toNat) (ix j.elems f.toNat) (.struct [28,3,9,3,3,30]) with | some z=>some (.bool (!z)) | none=>none) fun m=>(cond m.b (K (.e0 g j f m)) (rec ⟨g,j,(ad .i64 f 1)⟩))) none) none) (K (.e1 g j f)))
def ex4 (k:Kont):X4→Option D
 | .e0 g j f m=>k .ret ((vk (.slice 32) g)::(vk (.slice 32) j)::(us 2 ((vb false)::(vi f)::(us 5 ((vi f)::(vk (.slice 32) g)::(vi (nI g.elems.length))::(vb (ltI f (nI g.elems.length)))::(us 2 ((vk (.slice 32) g)::(vi f)::(.cptr k0_ (ix g.elems f.toNat))::(vk k0_ (ix g.elems f.toNat))::(vk (.slice 32) j)::(vi f)::(.cptr k0_ (ix j.elems f.toNat))::(vk k0_ (ix j.elems f.toNat))::(vk .bool m)::[]))))))) []
 | .e1 f j g=>k (.exit 0) ((vk (.slice 32) f)::(vk (.slice 32) j)::(us 3 ((vi g)::(us 5 ((vi g)::(vk (.slice 32) f)::(vi (nI f.elems.length))::(vb (ltI g (nI f.elems.length)))::(us 11 [])))))) []
def lv4:S4→List Leaf
 | ⟨f,g,j⟩=>[.d f,.d g,.i j]
def of4:List Leaf→Option S4
 | [.d f,.d g,.i j]=>some ⟨f,g,j⟩
 | _=>none
def ps4:List PV:=((.d (.slice 32) .x)::(.d (.slice 32) .x)::(up 3 ((.d (.int .i64) (.int .i64))::(up 20 []))))
def qs4:List PO:=[]
noncomputable def t (M:Nat):List Ent:=⟨24,11,0,4,sumS [0,1,5] ps4 qs4 [] of4 (st4 M) ex4 M⟩::[]
theorem t_ok (M:Nat):AllOk (e M) (tblOf (t M)):=AllOk.addS (n0:=0) (lv:=lv4) AllOk.nil (by kernel_rfl) rfl (by intro ls s h;unfold of4 at h;(repeat' split at h)<;>simp at h;subst h;rfl) (by intro s;kernel_rfl) (by intro s;kernel_rfl) (by intro s nx k;kernel_rfl)
def s (M:Nat) (p0:D) (p1:D):Option D:=
 (cond (neI (nI p0.elems.length) (nI p1.elems.length)) (some (db false)) (goS (st4 M) M ⟨p0,p1,0⟩ fun x=>match x with | .e0 f g j m=>(some (db false)) | .e1 f g j=>(some (db true))))
theorem run (M:Nat) (p0:D) (p1:D):callS (e M) (tblOf (t M)) 12 (.fn 24) [.d (.slice 32) p0,.d (.slice 32) p1] [] (fun v H=>finish ty [4] v H)=s M p0 p1:=by kernel_rfl
def c:Con:={ run:=fun ds=>match ds with | [p0,p1]=>s FUEL p0 p1 | _=>none,plain:=true }
theorem ok:ConOk (24,c):=mkC Tryz.f24 [(.slice 32),(.slice 32)] [4] (by kernel_rfl) (by kernel_rfl) (by kernel_rfl) (by kernel_rfl) allNil allNil (t_ok FUEL) fun a=>run FUEL a.1 a.2.1
end F24
namespace F15
def cons:List (Nat×Con):=[(17,F17.c),(22,F22.c),(23,F23.c),(24,F24.c),(26,F26.c),(27,F27.c),(50,F50.c)]
def exts:List (Nat×Ext):=[]
def h:List (Nat×Nat×Hint):=[]
noncomputable def e (M:Nat):Env:=env cons exts h M
def s (M:Nat)  : Option D:=
 (bd (F17.s FUEL (da [(dl false []),(di 0),(di 0)]) (dl false []) 32) fun g=>(bd (F26.s FUEL (da [(dl false []),(di 0),(di 0)]) (dl true [(da [(di 0),(dS (bs [97])),(dS (bs [])),(di 0),(di 0),(di 0)]),(da [(di 1),(dS (bs [97])),(dS (bs [104,101,108,108,111,44,32,119,111,114,108,100])),(di 0),(di 0),(di 0)])])) fun j=>(bd (F17.s FUEL (j.at 0) (j.at 2) 8) fun f=>(bd (F22.s FUEL (f.at 0) 8) fun m=>(bd (F27.s FUEL (g.at 0) (f.at 0)) fun o=>(cond (!(g.at 1).b) (some (db false)) (cond (!(f.at 1).b) (some (db false)) (cond (!(m.at 2).b) (some (db false)) (cond (neI (nI (g.at 0).elems.length) 1) (some (db false)) (cond (ltI (nI (f.at 0).elems.length) 4) (some (db false)) (cond (ltI (nI o.elems.length) 4) (some (db false)) (cond (inb (sb .i64 (nI (f.at 0).elems.length) 1) (f.at 0).elems.length) (bd (F50.s FUEL (j.at 0) (da [(dl false []),(di 0),(di 0)])) fun p=>(cond (inb 0 (g.at 0).elems.length) (bd (match D.eqv ty eqDepth (ix (g.at 0).elems 0) (da [(di 0),(di 0),(dS (ofBytes [(D.int .u8 0),(D.int .u8 0),(D.int .u8 0),(D.int .u8 0)]))]) (.struct [3,3,9]) with | some z=>some (.bool z) | none=>none) fun q=>(bdB q fun r=>(cond r (bd (F23.s FUEL (j.at 0) (m.at 0)) fun u=>(bdB u fun w=>(cond w (bd (F24.s FUEL (j.at 2) (m.at 1)) fun y=>(bdB y fun A=>(cond A (bd (match D.eqv ty eqDepth (ix (f.at 0).elems (sb .i64 (nI (f.at 0).elems.length) 1).toNat) (da [(di 4097),(di 1),(dS (bs [111,114,108,100]))]) (.struct [3,3,9]) with | some z=>some (.bool z) | none=>none) fun B=>(bdB B fun C=>(cond C (cond (eqI (nI p.elems.length) 1) (cond (inb 0 p.elems.length) (cond (eqI (ix p.elems 0).i 1) (cond (inb 0 o.elems.length) (some (db (!((ix o.elems 0).at 1).b))) none) (some (db false))) none) (some (db false))) (some (db false))))) (some (db false))))) (some (db false))))) (some (db false))))) none)) none))))))))))))
theorem run (M:Nat)  : callS (e M) (tblOf []) 12 (.fn 15) [] [] (fun v H=>finish ty [4] v H)=s M  := by kernel_rfl
def c:Con:={ run:=fun ds=>match ds with | []=>s FUEL  | _=>none,plain:=true }
theorem ok:ConOk (15,c):=mkC Tryz.f15 [] [4] (by kernel_rfl) (by kernel_rfl) (by kernel_rfl) (by kernel_rfl) (allCons F17.ok (allCons F22.ok (allCons F23.ok (allCons F24.ok (allCons F26.ok (allCons F27.ok (allCons F50.ok allNil))))))) allNil AllOk.nil fun _=>run FUEL
end F15
namespace F25
structure S2 where
 (d1:D) (i2:Int)
inductive X2 where
 | e0 (f:D) (g:Int)
 | e1 (f:D) (g:Int)
 | e2 (f:D) (g:Int)
 | e3 (f:D) (g:Int)
def st2 (M:Nat):S2→(S2→Option D)→(X2→Option D)→Option D
 | ⟨g,f⟩,rec,K=>(cond (ltI f (nI g.elems.length)) (cond (leI f 30) (cond (inb f g.elems.length) (cond (gtI (nI ((ix g.elems f.toNat).at 2).s.size) 700) (K (.e0 g f)) (cond (inb f g.elems.length) (cond (gtI (nI ((ix g.elems f.toNat).at 1).s.size) 200) (K (.e1 g f)) (rec ⟨g,(ad .i64 f 1)⟩)) none)) none) (K (.e2 g f))) (K (.e3 g f)))
def ex2 (k:Kont):X2→Option D
 | .e0 g f=>k .ret ((vk (.slice 74) g)::(us 1 ((vb false)::(vi f)::(vi f)::(vk (.slice 74) g)::(vi (nI g.elems.length))::(vb (ltI f (nI g.elems.length)))::(vb true)::(vi f)::(vb (leI f 30))::(vb (leI f 30))::(us 2 ((vk (.slice 74) g)::(vi f)::(.cptr (.struct [28,9,9,3,3,3]) (ix g.elems f.toNat))::(.cptr .str ((ix g.elems f.toNat).at 2))::(vk .str ((ix g.elems f.toNat).at 2))::(vi (nI ((ix g.elems f.toNat).at 2).s.size))::(vb (gtI (nI ((ix g.elems f.toNat).at 2).s.size) 700))::(vb true)::v0::v0::v0::v0::v0::v0::v0::(vb true)::(us 3 [])))))) []
 | .e1 g f=>k .ret ((vk (.slice 74) g)::(us 1 ((vb false)::(vi f)::(vi f)::(vk (.slice 74) g)::(vi (nI g.elems.length))::(vb (ltI f (nI g.elems.length)))::(vb true)::(vi f)::(vb (leI f 30))::(vb (leI f 30))::(us 2 ((vk (.slice 74) g)::(vi f)::(.cptr (.struct [28,9,9,3,3,3]) (ix g.elems f.toNat))::(.cptr .str ((ix g.elems f.toNat).at 2))::(vk .str ((ix g.elems f.toNat).at 2))::(vi (nI ((ix g.elems f.toNat).at 2).s.size))::(vb (gtI (nI ((ix g.elems f.toNat).at 2).s.size) 700))::(vb false)::(vk (.slice 74) g)::(vi f)::(.cptr (.struct [28,9,9,3,3,3]) (ix g.elems f.toNat))::(.cptr .str ((ix g.elems f.toNat).at 1))::(vk .str ((ix g.elems f.toNat).at 1))::(vi (nI ((ix g.elems f.toNat).at 1).s.size))::(vb (gtI (nI ((ix g.elems f.toNat).at 1).s.size) 200))::(vb (gtI (nI ((ix g.elems f.toNat).at 1).s.size) 200))::(us 3 [])))))) []
 | .e2 g f=>k (.exit 0) ((vk (.slice 74) g)::(us 2 ((vi f)::(vi f)::(vk (.slice 74) g)::(vi (nI g.elems.length))::(vb (ltI f (nI g.elems.length)))::(vb true)::(vi f)::(vb (leI f 30))::(vb (leI f 30))::(us 21 [])))) []
 | .e3 f g=>k (.exit 0) ((vk (.slice 74) f)::(us 2 ((vi g)::(vi g)::(vk (.slice 74) f)::(vi (nI f.elems.length))::(vb (ltI g (nI f.elems.length)))::(vb false)::v0::v0::(vb false)::(us 21 [])))) []
def s (M:Nat) (p0:D):Option D:=
 (goS (st2 M) M ⟨p0,0⟩ fun x=>match x with | .e0 f g=>(some (db false)) | .e1 f g=>(some (db false)) | .e2 f g=>(some (db (leI (nI f.elems.length) 30))) | .e3 f g=>(some (db (leI (nI f.elems.length) 30))))
def c:Con:={ run:=fun ds=>match ds with | [p0]=>s FUEL p0 | _=>none,plain:=true }
end F25
namespace F6
end F6
namespace F7
end F7
namespace F21
def cons:List (Nat×Con):=[]
def exts:List (Nat×Ext):=[]
def h:List (Nat×Nat×Hint):=[(21,3,{ live:=[0,3,4],rows:=[(3,62)],out:=some [3] })]
noncomputable def e (M:Nat):Env:=env cons exts h M
structure S3 where
 (d1:D) (n2 n3:Nat) (i4:Int) (b5:Bool) (l6:List D)
inductive X3 where
 | e0 (f g:Nat) (j:Bool) (m:List D)
def st3 (M:Nat):S3→(S3→Option D)→(X3→Option D)→Option D
 | ⟨f,m,j,g,o,p⟩,rec,K=>(cond (ltI g (nI f.elems.length)) (cond (inb g f.elems.length) (cond (inb g f.elems.length) (cond (inb g f.elems.length) (cond (mx (j+1)) (rec ⟨f,0,(j+1),(ad .i64 g 1),(o||true),(ap ((p.drop m).take j) [(da [((ix f.elems g.toNat).at 0),((ix f.elems g.toNat).at 1),((ix f.elems g.toNat).at 2)])])⟩) none) none) none) none) (K (.e0 m j o p)))
def ex3 (k:Kont):X3→Option D
 | .e0 f g j m=>k (.exit 0) ((us 3 ((.sref 0 f g)::(us 27 [])))) [(.row 62 true j m)]
def lv3:S3→List Leaf
 | ⟨f,g,j,m,o,p⟩=>[.d f,.n g,.n j,.i m,.b o,.l p]
def of3:List Leaf→Option S3
 | [.d f,.n g,.n j,.i m,.b o,.l p]=>some ⟨f,g,j,m,o,p⟩
 | _=>none
def ps3:List PV:=((.d (.slice 49) .x)::(up 2 ((.sref 0)::(.d (.int .i64) (.int .i64))::(up 26 []))))
def qs3:List PO:=[(.row 62 true)]
noncomputable def t (M:Nat):List Ent:=⟨21,11,0,3,sumS [0,3,4] ps3 qs3 [(3,0)] of3 (st3 M) ex3 M⟩::[]
theorem t_ok (M:Nat):AllOk (e M) (tblOf (t M)):=AllOk.addS (n0:=1) (lv:=lv3) AllOk.nil (by kernel_rfl) rfl (by intro ls s h;unfold of3 at h;(repeat' split at h)<;>simp at h;subst h;rfl) (by intro s;kernel_rfl) (by intro s;kernel_rfl) (by intro s nx k;kernel_rfl)
def s (M:Nat) (p0:D):Option D:=
 (goS (st3 M) M ⟨p0,0,0,0,false,[]⟩ fun x=>match x with | .e0 g j m f=>(cond ((decide (j=f.length))&&(decide (g=0))) (some (.slice m f)) none))
theorem run (M:Nat) (p0:D):callS (e M) (tblOf (t M)) 12 (.fn 21) [.d (.slice 49) p0] [] (fun v H=>finishFresh ty [36] v H)=s M p0:=by kernel_rfl
def c:Con:={ run:=fun ds=>match ds with | [p0]=>s FUEL p0 | _=>none,fresh:=true }
theorem ok:ConOk (21,c):=mkF Tryz.f21 [(.slice 49)] [36] (by kernel_rfl) (by kernel_rfl) (by kernel_rfl) allNil allNil (t_ok FUEL) fun a=>run FUEL a.1
end F21
namespace F28
end F28
namespace F29
end F29
namespace F20
def cons:List (Nat×Con):=[]
def exts:List (Nat×Ext):=[]
def h:List (Nat×Nat×Hint):=[(20,4,{ live:=[0,1,5],out:=some [4] })]
noncomputable def e (M:Nat):Env:=env cons exts h M
structure S4 where
 (d1 d2:D) (i3:Int)
inductive X4 where
 | e0
 | e1
def st4 (M:Nat):S4→(S4→Option D)→(X4→Option D)→Option D
 | ⟨g,j,f⟩,rec,K=>(cond (ltI f (nI g.elems.length)) (cond (inb f g.elems.length) (cond (inb f j.elems.length) (bd (match D.eqv ty eqDepth (ix g.elems f.toNat) (ix j.elems f.toNat) (.struct [3,3,9]) with | some z=>some (.bool (!z)) | none=>none) fun m=>(cond m.b (K .e0) (rec ⟨g,j,(ad .i64 f 1)⟩))) none) none) (K .e1))
def ex4 (k:Kont):X4→Option D
 | .e0  => k .ret ((us 4 ((vb false)::(us 21 [])))) []
 | .e1  => k (.exit 0) ((us 26 [])) []
def lv4:S4→List Leaf
 | ⟨f,g,j⟩=>[.d f,.d g,.i j]
def of4:List Leaf→Option S4
 | [.d f,.d g,.i j]=>some ⟨f,g,j⟩
 | _=>none
def ps4:List PV:=((.d (.slice 62) .x)::(.d (.slice 62) .x)::(up 3 ((.d (.int .i64) (.int .i64))::(up 20 []))))
def qs4:List PO:=[]
noncomputable def t (M:Nat):List Ent:=⟨20,11,0,4,sumS [0,1,5] ps4 qs4 [] of4 (st4 M) ex4 M⟩::[]
theorem t_ok (M:Nat):AllOk (e M) (tblOf (t M)):=AllOk.addS (n0:=0) (lv:=lv4) AllOk.nil (by kernel_rfl) rfl (by intro ls s h;unfold of4 at h;(repeat' split at h)<;>simp at h;subst h;rfl) (by intro s;kernel_rfl) (by intro s;kernel_rfl) (by intro s nx k;kernel_rfl)
def s (M:Nat) (p0:D) (p1:D):Option D:=
 (cond (neI (nI p0.elems.length) (nI p1.elems.length)) (some (db false)) (goS (st4 M) M ⟨p0,p1,0⟩ fun x=>match x with | .e0  => (some (db false)) | .e1  => (some (db true))))
theorem run (M:Nat) (p0:D) (p1:D):callS (e M) (tblOf (t M)) 12 (.fn 20) [.d (.slice 62) p0,.d (.slice 62) p1] [] (fun v H=>finish ty [4] v H)=s M p0 p1:=by kernel_rfl
def c:Con:={ run:=fun ds=>match ds with | [p0,p1]=>s FUEL p0 p1 | _=>none,plain:=true }
theorem ok:ConOk (20,c):=mkC Tryz.f20 [(.slice 62),(.slice 62)] [4] (by kernel_rfl) (by kernel_rfl) (by kernel_rfl) (by kernel_rfl) allNil allNil (t_ok FUEL) fun a=>run FUEL a.1 a.2.1
end F20
namespace F5
end F5
end Go.AM.SY
namespace Go.AM.SY
open Go Go.AM Go.Proofs Go.RowKit
namespace F51
def k0_:K:=(.struct [3,9,9,4,3,66])
def cons:List (Nat×Con):=[]
def exts:List (Nat×Ext):=[]
def h:List (Nat×Nat×Hint):=[(51,2,{ live:=[1,3],out:=some [1,2] })]
noncomputable def e (M:Nat):Env:=env cons exts h M
structure S2 where
 (i1:Int) (d2:D)
inductive X2 where
 | e0 (f:D)
 | e1 (f:D)
def st2 (M:Nat):S2→(S2→Option D)→(X2→Option D)→Option D
 | ⟨g,f⟩,rec,K=>(cond (ltI g (nI (f.at 5).elems.length)) (cond (leI g 200) (cond (inb g (f.at 5).elems.length) (cond (gtI (nI (ix (f.at 5).elems g.toNat).s.size) 200) (K (.e0 f)) (rec ⟨(ad .i64 g 1),f⟩)) none) (K (.e1 f))) (K (.e1 f)))
def ex2 (k:Kont):X2→Option D
 | .e0 f=>k .ret ((us 1 ((.ptr 0 [] k0_)::(vb false)::(us 35 [])))) [(.var k0_ (vk k0_ f))]
 | .e1 f=>k (.exit 0) ((us 1 ((.ptr 0 [] k0_)::(us 36 [])))) [(.var k0_ (vk k0_ f))]
def lv2:S2→List Leaf
 | ⟨f,g⟩=>[.i f,.d g]
def of2:List Leaf→Option S2
 | [.i f,.d g]=>some ⟨f,g⟩
 | _=>none
def ps2:List PV:=((up 1 ((.ptr 0 [] k0_)::(up 1 ((.d (.int .i64) (.int .i64))::(up 34 []))))))
def qs2:List PO:=[(.var k0_ (.d k0_ .x))]
noncomputable def t (M:Nat):List Ent:=⟨51,11,0,2,sumS [1,3] ps2 qs2 [] of2 (st2 M) ex2 M⟩::[]
theorem t_ok (M:Nat):AllOk (e M) (tblOf (t M)):=AllOk.addS (n0:=1) (lv:=lv2) AllOk.nil (by kernel_rfl) rfl (by intro ls s h;unfold of2 at h;(repeat' split at h)<;>simp at h;subst h;rfl) (by intro s;kernel_rfl) (by intro s;kernel_rfl) (by intro s nx k;kernel_rfl)
def s (M:Nat) (p0:D):Option D:=
 (goS (st2 M) M ⟨0,p0⟩ fun x=>match x with | .e0 f=>(some (db false)) | .e1 f=>(cond (leI (nI (f.at 5).elems.length) 200) (cond (leI (nI (f.at 2).s.size) 2000) (some (db (leI (nI (f.at 1).s.size) 200))) (some (db false))) (some (db false))))
theorem run (M:Nat) (p0:D):callS (e M) (tblOf (t M)) 12 (.fn 51) [.d (.struct [3,9,9,4,3,66]) p0] [] (fun v H=>finish ty [4] v H)=s M p0:=by kernel_rfl
def c:Con:={ run:=fun ds=>match ds with | [p0]=>s FUEL p0 | _=>none,plain:=true }
theorem ok:ConOk (51,c):=mkC Tryz.f51 [(.struct [3,9,9,4,3,66])] [4] (by kernel_rfl) (by kernel_rfl) (by kernel_rfl) (by kernel_rfl) allNil allNil (t_ok FUEL) fun a=>run FUEL a.1
end F51
namespace F16
def k0_:K:=(.struct [22,3,3])
def cons:List (Nat×Con):=[(51,F51.c)]
def exts:List (Nat×Ext):=[]
def h:List (Nat×Nat×Hint):=[(16,2,{ live:=[1,3],out:=some [1,2] })]
noncomputable def e (M:Nat):Env:=env cons exts h M
structure S2 where
 (i1:Int) (d2:D)
inductive X2 where
 | e0 (f:D)
 | e1 (f:D)
def st2 (M:Nat):S2→(S2→Option D)→(X2→Option D)→Option D
 | ⟨g,f⟩,rec,K=>(cond (ltI g (nI (f.at 0).elems.length)) (cond (leI g 20) (cond (inb g (f.at 0).elems.length) (bd (F51.s FUEL (ix (f.at 0).elems g.toNat)) fun j=>(cond (!j.b) (K (.e0 f)) (rec ⟨(ad .i64 g 1),f⟩))) none) (K (.e1 f))) (K (.e1 f)))
def ex2 (k:Kont):X2→Option D
 | .e0 f=>k .ret ((us 1 ((.ptr 0 [] k0_)::(vb false)::(us 25 [])))) [(.var k0_ (vk k0_ f))]
 | .e1 f=>k (.exit 0) ((us 1 ((.ptr 0 [] k0_)::(us 26 [])))) [(.var k0_ (vk k0_ f))]
def lv2:S2→List Leaf
 | ⟨f,g⟩=>[.i f,.d g]
def of2:List Leaf→Option S2
 | [.i f,.d g]=>some ⟨f,g⟩
 | _=>none
def ps2:List PV:=((up 1 ((.ptr 0 [] k0_)::(up 1 ((.d (.int .i64) (.int .i64))::(up 24 []))))))
def qs2:List PO:=[(.var k0_ (.d k0_ .x))]
noncomputable def t (M:Nat):List Ent:=⟨16,11,0,2,sumS [1,3] ps2 qs2 [] of2 (st2 M) ex2 M⟩::[]
theorem t_ok (M:Nat):AllOk (e M) (tblOf (t M)):=AllOk.addS (n0:=1) (lv:=lv2) AllOk.nil (by kernel_rfl) rfl (by intro ls s h;unfold of2 at h;(repeat' split at h)<;>simp at h;subst h;rfl) (by intro s;kernel_rfl) (by intro s;kernel_rfl) (by intro s nx k;kernel_rfl)
def s (M:Nat) (p0:D):Option D:=
 (goS (st2 M) M ⟨0,p0⟩ fun x=>match x with | .e0 f=>(some (db false)) | .e1 f=>(some (db (leI (nI (f.at 0).elems.length) 20))))
theorem run (M:Nat) (p0:D):callS (e M) (tblOf (t M)) 12 (.fn 16) [.d (.struct [22,3,3]) p0] [] (fun v H=>finish ty [4] v H)=s M p0:=by kernel_rfl
def c:Con:={ run:=fun ds=>match ds with | [p0]=>s FUEL p0 | _=>none,plain:=true }
theorem ok:ConOk (16,c):=mkC Tryz.f16 [(.struct [22,3,3])] [4] (by kernel_rfl) (by kernel_rfl) (by kernel_rfl) (by kernel_rfl) (allCons F51.ok allNil) allNil (t_ok FUEL) fun a=>run FUEL a.1
end F16
namespace F4
end F4
end Go.AM.SY
namespace Go.AM.SY
open Go Go.AM Go.Proofs Go.RowKit
namespace F19
def cons:List (Nat×Con):=[]
def exts:List (Nat×Ext):=[]
def h:List (Nat×Nat×Hint):=[]
noncomputable def e (M:Nat):Env:=env cons exts h M
def s (M:Nat) (p0:D):Option D:=
 (some (da [(p0.at 0),(p0.at 1),(p0.at 2)]))
theorem run (M:Nat) (p0:D):callS (e M) (tblOf []) 12 (.fn 19) [.d (.struct [22,3,3]) p0] [] (fun v H=>finish ty [39] v H)=s M p0:=by kernel_rfl
def c:Con:={ run:=fun ds=>match ds with | [p0]=>s FUEL p0 | _=>none }
theorem ok:ConOk (19,c):=mkC Tryz.f19 [(.struct [22,3,3])] [39] (by kernel_rfl) (by kernel_rfl) (by kernel_rfl) (by kernel_rfl) allNil allNil AllOk.nil fun a=>run FUEL a.1
end F19
namespace F252
def cons:List (Nat×Con):=[]
def exts:List (Nat×Ext):=[]
def h:List (Nat×Nat×Hint):=[(252,22,{ live:=[0,5,6,7,8] })]
noncomputable def e (M:Nat):Env:=env cons exts h M
structure S22 where
 (s1:ByteArray) (i2 i3 i4 i5:Int)
inductive X22 where
 | e0 (s1:ByteArray) (i2 i3 i4 i5:Int)
 | e1 (s1:ByteArray) (i2 i3 i4 i5:Int)
 | e2 (s1:ByteArray) (i2 i3 i4 i5:Int)
def st22 (M:Nat):S22→(S22→Option D)→(X22→Option D)→Option D
 | ⟨s1,i2,i3,i4,i5⟩,rec,K=>(cond (ltI i5 i2) (cond (inb i5 s1.size) (cond (ltI (cv .i64 (byteAt s1 i5.toNat)) 128) (K (.e0 s1 i2 i3 i4 i5)) (cond (gtI (cv .i64 (byteAt s1 i5.toNat)) 191) (K (.e1 s1 i2 i3 i4 i5)) (rec ⟨s1,i2,i3,(sb .i64 (ad .i64 (ml .i64 i4 64) (cv .i64 (byteAt s1 i5.toNat))) 128),(ad .i64 i5 1)⟩))) none) (K (.e2 s1 i2 i3 i4 i5)))
def ex22 (k:Kont):X22→Option D
 | .e0 s1 i2 i3 i4 i5=>k .ret ((vS s1)::(us 1 ((vi (-1))::(vi 1)::(us 1 ((vi i2)::(vi i3)::(vi i4)::(vi i5)::(vi (cv .i64 (byteAt s1 i5.toNat)))::(us 38 ((vi i5)::(vi i2)::(vb (ltI i5 i2))::(us 2 ((vS s1)::(vi i5)::(vk (.int .u8) (D.int .u8 (byteAt s1 i5.toNat)))::(vi (cv .i64 (byteAt s1 i5.toNat)))::(vi (cv .i64 (byteAt s1 i5.toNat)))::(vb (ltI (cv .i64 (byteAt s1 i5.toNat)) 128))::(vb true)::v0::v0::(vb true)::(us 22 [])))))))))) []
 | .e1 s1 i2 i3 i4 i5=>k .ret ((vS s1)::(us 1 ((vi (-1))::(vi 1)::(us 1 ((vi i2)::(vi i3)::(vi i4)::(vi i5)::(vi (cv .i64 (byteAt s1 i5.toNat)))::(us 38 ((vi i5)::(vi i2)::(vb (ltI i5 i2))::(us 2 ((vS s1)::(vi i5)::(vk (.int .u8) (D.int .u8 (byteAt s1 i5.toNat)))::(vi (cv .i64 (byteAt s1 i5.toNat)))::(vi (cv .i64 (byteAt s1 i5.toNat)))::(vb (ltI (cv .i64 (byteAt s1 i5.toNat)) 128))::(vb false)::(vi (cv .i64 (byteAt s1 i5.toNat)))::(vb (gtI (cv .i64 (byteAt s1 i5.toNat)) 191))::(vb (gtI (cv .i64 (byteAt s1 i5.toNat)) 191))::(us 22 [])))))))))) []
 | .e2 s1 i2 i3 i4 i5=>k (.exit 0) ((vS s1)::(us 4 ((vi i2)::(vi i3)::(vi i4)::(vi i5)::(us 39 ((vi i5)::(vi i2)::(vb (ltI i5 i2))::(us 34 [])))))) []
def lv22:S22→List Leaf
 | ⟨s1,i2,i3,i4,i5⟩=>[.s s1,.i i2,.i i3,.i i4,.i i5]
def of22:List Leaf→Option S22
 | [.s s1,.i i2,.i i3,.i i4,.i i5]=>some ⟨s1,i2,i3,i4,i5⟩
 | _=>none
def ps22:List PV:=((.d .str .str)::(up 4 ((.d (.int .i64) (.int .i64))::(.d (.int .i64) (.int .i64))::(.d (.int .i64) (.int .i64))::(.d (.int .i64) (.int .i64))::(up 76 []))))
def qs22:List PO:=[]
noncomputable def t (M:Nat):List Ent:=⟨252,11,0,22,sumS [0,5,6,7,8] ps22 qs22 [] of22 (st22 M) ex22 M⟩::[]
theorem t_ok (M:Nat):AllOk (e M) (tblOf (t M)):=AllOk.addS (n0:=0) (lv:=lv22) AllOk.nil (by kernel_rfl) rfl (by intro ls s h;unfold of22 at h;(repeat' split at h)<;>simp at h;subst h;rfl) (by intro s;kernel_rfl) (by intro s;kernel_rfl) (by intro s nx k;kernel_rfl)
def s (M:Nat) (p0:ByteArray):Option D:=
 (cond (inb 0 p0.size) (cond (ltI (cv .i64 (byteAt p0 0)) 128) (some (D.tup [(di (cv .i64 (byteAt p0 0))),(di 1)])) (cond (geI (cv .i64 (byteAt p0 0)) 194) (cond (ltI (cv .i64 (byteAt p0 0)) 224) (cond (ltI (nI p0.size) 2) (some (D.tup [(di (-1)),(di 1)])) (goS (st22 M) M ⟨p0,2,128,(sb .i64 (cv .i64 (byteAt p0 0)) 192),1⟩ fun x=>match x with | .e0 s1 i2 i3 i4 i5=>(some (D.tup [(di (-1)),(di 1)])) | .e1 s1 i2 i3 i4 i5=>(some (D.tup [(di (-1)),(di 1)])) | .e2 s1 i2 i3 i4 i5=>(cond (ltI i4 i3) (some (D.tup [(di (-1)),(di 1)])) (cond (gtI i4 1114111) (some (D.tup [(di (-1)),(di 1)])) (cond (geI i4 55296) (cond (leI i4 57343) (some (D.tup [(di (-1)),(di 1)])) (some (D.tup [(di i4),(di i2)]))) (some (D.tup [(di i4),(di i2)]))))))) (cond (geI (cv .i64 (byteAt p0 0)) 224) (cond (ltI (cv .i64 (byteAt p0 0)) 240) (cond (ltI (nI p0.size) 3) (some (D.tup [(di (-1)),(di 1)])) (goS (st22 M) M ⟨p0,3,2048,(sb .i64 (cv .i64 (byteAt p0 0)) 224),1⟩ fun x=>match x with | .e0 s1 i2 i3 i4 i5=>(some (D.tup [(di (-1)),(di 1)])) | .e1 s1 i2 i3 i4 i5=>(some (D.tup [(di (-1)),(di 1)])) | .e2 s1 i2 i3 i4 i5=>(cond (ltI i4 i3) (some (D.tup [(di (-1)),(di 1)])) (cond (gtI i4 1114111) (some (D.tup [(di (-1)),(di 1)])) (cond (geI i4 55296) (cond (leI i4 57343) (some (D.tup [(di (-1)),(di 1)])) (some (D.tup [(di i4),(di i2)]))) (some (D.tup [(di i4),(di i2)]))))))) (cond (geI (cv .i64 (byteAt p0 0)) 240) (cond (ltI (cv .i64 (byteAt p0 0)) 245) (cond (ltI (nI p0.size) 4) (some (D.tup [(di (-1)),(di 1)])) (goS (st22 M) M ⟨p0,4,65536,(sb .i64 (cv .i64 (byteAt p0 0)) 240),1⟩ fun x=>match x with | .e0 s1 i2 i3 i4 i5=>(some (D.tup [(di (-1)),(di 1)])) | .e1 s1 i2 i3 i4 i5=>(some (D.tup [(di (-1)),(di 1)])) | .e2 s1 i2 i3 i4 i5=>(cond (ltI i4 i3) (some (D.tup [(di (-1)),(di 1)])) (cond (gtI i4 1114111) (some (D.tup [(di (-1)),(di 1)])) (cond (geI i4 55296) (cond (leI i4 57343) (some (D.tup [(di (-1)),(di 1)])) (some (D.tup [(di i4),(di i2)]))) (some (D.tup [(di i4),(di i2)]))))))) (some (D.tup [(di (-1)),(di 1)]))) (some (D.tup [(di (-1)),(di 1)])))) (cond (geI (cv .i64 (byteAt p0 0)) 240) (cond (ltI (cv .i64 (byteAt p0 0)) 245) (cond (ltI (nI p0.size) 4) (some (D.tup [(di (-1)),(di 1)])) (goS (st22 M) M ⟨p0,4,65536,(sb .i64 (cv .i64 (byteAt p0 0)) 240),1⟩ fun x=>match x with | .e0 s1 i2 i3 i4 i5=>(some (D.tup [(di (-1)),(di 1)])) | .e1 s1 i2 i3 i4 i5=>(some (D.tup [(di (-1)),(di 1)])) | .e2 s1 i2 i3 i4 i5=>(cond (ltI i4 i3) (some (D.tup [(di (-1)),(di 1)])) (cond (gtI i4 1114111) (some (D.tup [(di (-1)),(di 1)])) (cond (geI i4 55296) (cond (leI i4 57343) (some (D.tup [(di (-1)),(di 1)])) (some (D.tup [(di i4),(di i2)]))) (some (D.tup [(di i4),(di i2)]))))))) (some (D.tup [(di (-1)),(di 1)]))) (some (D.tup [(di (-1)),(di 1)]))))) (cond (geI (cv .i64 (byteAt p0 0)) 224) (cond (ltI (cv .i64 (byteAt p0 0)) 240) (cond (ltI (nI p0.size) 3) (some (D.tup [(di (-1)),(di 1)])) (goS (st22 M) M ⟨p0,3,2048,(sb .i64 (cv .i64 (byteAt p0 0)) 224),1⟩ fun x=>match x with | .e0 s1 i2 i3 i4 i5=>(some (D.tup [(di (-1)),(di 1)])) | .e1 s1 i2 i3 i4 i5=>(some (D.tup [(di (-1)),(di 1)])) | .e2 s1 i2 i3 i4 i5=>(cond (ltI i4 i3) (some (D.tup [(di (-1)),(di 1)])) (cond (gtI i4 1114111) (some (D.tup [(di (-1)),(di 1)])) (cond (geI i4 55296) (cond (leI i4 57343) (some (D.tup [(di (-1)),(di 1)])) (some (D.tup [(di i4),(di i2)]))) (some (D.tup [(di i4),(di i2)]))))))) (cond (geI (cv .i64 (byteAt p0 0)) 240) (cond (ltI (cv .i64 (byteAt p0 0)) 245) (cond (ltI (nI p0.size) 4) (some (D.tup [(di (-1)),(di 1)])) (goS (st22 M) M ⟨p0,4,65536,(sb .i64 (cv .i64 (byteAt p0 0)) 240),1⟩ fun x=>match x with | .e0 s1 i2 i3 i4 i5=>(some (D.tup [(di (-1)),(di 1)])) | .e1 s1 i2 i3 i4 i5=>(some (D.tup [(di (-1)),(di 1)])) | .e2 s1 i2 i3 i4 i5=>(cond (ltI i4 i3) (some (D.tup [(di (-1)),(di 1)])) (cond (gtI i4 1114111) (some (D.tup [(di (-1)),(di 1)])) (cond (geI i4 55296) (cond (leI i4 57343) (some (D.tup [(di (-1)),(di 1)])) (some (D.tup [(di i4),(di i2)]))) (some (D.tup [(di i4),(di i2)]))))))) (some (D.tup [(di (-1)),(di 1)]))) (some (D.tup [(di (-1)),(di 1)])))) (cond (geI (cv .i64 (byteAt p0 0)) 240) (cond (ltI (cv .i64 (byteAt p0 0)) 245) (cond (ltI (nI p0.size) 4) (some (D.tup [(di (-1)),(di 1)])) (goS (st22 M) M ⟨p0,4,65536,(sb .i64 (cv .i64 (byteAt p0 0)) 240),1⟩ fun x=>match x with | .e0 s1 i2 i3 i4 i5=>(some (D.tup [(di (-1)),(di 1)])) | .e1 s1 i2 i3 i4 i5=>(some (D.tup [(di (-1)),(di 1)])) | .e2 s1 i2 i3 i4 i5=>(cond (ltI i4 i3) (some (D.tup [(di (-1)),(di 1)])) (cond (gtI i4 1114111) (some (D.tup [(di (-1)),(di 1)])) (cond (geI i4 55296) (cond (leI i4 57343) (some (D.tup [(di (-1)),(di 1)])) (some (D.tup [(di i4),(di i2)]))) (some (D.tup [(di i4),(di i2)]))))))) (some (D.tup [(di (-1)),(di 1)]))) (some (D.tup [(di (-1)),(di 1)])))))) none)
theorem run (M:Nat) (p0:ByteArray):callS (e M) (tblOf (t M)) 12 (.fn 252) [.d .str (dS p0)] [] (fun v H=>finish ty [3,3] v H)=s M p0:=by kernel_rfl
def c:Con:={ run:=fun ds=>match ds with | [p0]=>s FUEL p0.s | _=>none,plain:=true }
theorem ok:ConOk (252,c):=mkC Tryz.f252 [.str] [3,3] (by kernel_rfl) (by kernel_rfl) (by kernel_rfl) (by kernel_rfl) allNil allNil (t_ok FUEL) fun a=>run FUEL a.1
end F252
namespace F227
def cons:List (Nat×Con):=[(252,F252.c)]
def exts:List (Nat×Ext):=[]
def h:List (Nat×Nat×Hint):=[(227,3,{ live:=[0,3,4],rows:=[(3,3)] })]
noncomputable def e (M:Nat):Env:=env cons exts h M
structure S3 where
 (s1:ByteArray) (n2 n3:Nat) (i4:Int) (b5:Bool) (l6:List D)
inductive X3 where
 | e0 (s1:ByteArray) (n2 n3:Nat) (i4:Int) (b5:Bool) (l6:List D)
def st3 (M:Nat):S3→(S3→Option D)→(X3→Option D)→Option D
 | ⟨s1,n2,n3,i4,b5,l6⟩,rec,K=>(cond (ltI i4 (nI s1.size)) (cond ((leI 0 i4)&&(leI i4 (nI s1.size))&&(leI (nI s1.size) (nI s1.size))&&(leI (nI s1.size) (nI s1.size))) (bd (F252.s FUEL (s1.extract i4.toNat s1.size)) fun r7=>(cond (ltI (r7.at 0).i 0) (cond (inb i4 s1.size) (cond (mx (n3+1)) (rec ⟨s1,0,(n3+1),(ad .i64 i4 (r7.at 1).i),(b5||true),(ap ((l6.drop n2).take n3) [(di (ad .i64 1114112 (cv .i64 (byteAt s1 i4.toNat))))])⟩) none) none) (cond (mx (n3+1)) (rec ⟨s1,0,(n3+1),(ad .i64 i4 (r7.at 1).i),(b5||true),(ap ((l6.drop n2).take n3) [(r7.at 0)])⟩) none))) none) (K (.e0 s1 n2 n3 i4 b5 l6)))
def ex3 (k:Kont):X3→Option D
 | .e0 s1 n2 n3 i4 b5 l6=>k (.exit 0) ((vS s1)::(us 2 ((.sref 0 n2 n3)::(vi i4)::(us 2 ((vi i4)::(vS s1)::(vi (nI s1.size))::(vb (ltI i4 (nI s1.size)))::(us 22 [])))))) [(.row 3 true b5 l6)]
def lv3:S3→List Leaf
 | ⟨s1,n2,n3,i4,b5,l6⟩=>[.s s1,.n n2,.n n3,.i i4,.b b5,.l l6]
def of3:List Leaf→Option S3
 | [.s s1,.n n2,.n n3,.i i4,.b b5,.l l6]=>some ⟨s1,n2,n3,i4,b5,l6⟩
 | _=>none
def ps3:List PV:=((.d .str .str)::(up 2 ((.sref 0)::(.d (.int .i64) (.int .i64))::(up 28 []))))
def qs3:List PO:=[(.row 3 true)]
noncomputable def t (M:Nat):List Ent:=⟨227,11,0,3,sumS [0,3,4] ps3 qs3 [(3,0)] of3 (st3 M) ex3 M⟩::[]
theorem t_ok (M:Nat):AllOk (e M) (tblOf (t M)):=AllOk.addS (n0:=1) (lv:=lv3) AllOk.nil (by kernel_rfl) rfl (by intro ls s h;unfold of3 at h;(repeat' split at h)<;>simp at h;subst h;rfl) (by intro s;kernel_rfl) (by intro s;kernel_rfl) (by intro s nx k;kernel_rfl)
def s (M:Nat) (p0:ByteArray):Option D:=
 (goS (st3 M) M ⟨p0,0,0,0,false,[]⟩ fun x=>match x with | .e0 s1 n2 n3 i4 b5 l6=>(cond ((decide (n3=l6.length))&&(decide (n2=0))) (some (.slice b5 l6)) none))
theorem run (M:Nat) (p0:ByteArray):callS (e M) (tblOf (t M)) 12 (.fn 227) [.d .str (dS p0)] [] (fun v H=>finishFresh ty [81] v H)=s M p0:=by kernel_rfl
def c:Con:={ run:=fun ds=>match ds with | [p0]=>s FUEL p0.s | _=>none,fresh:=true }
theorem ok:ConOk (227,c):=mkF Tryz.f227 [.str] [81] (by kernel_rfl) (by kernel_rfl) (by kernel_rfl) (allCons F252.ok allNil) allNil (t_ok FUEL) fun a=>run FUEL a.1
end F227
namespace F169
def cons:List (Nat×Con):=[(227,F227.c)]
def exts:List (Nat×Ext):=[]
def h:List (Nat×Nat×Hint):=[(169,5,{ live:=[3,4] })]
noncomputable def e (M:Nat):Env:=env cons exts h M
structure S5 where
 (n2 n3:Nat) (i4:Int) (b5:Bool) (l6:List D)
inductive X5 where
 | e0 (n2 n3:Nat) (i4:Int) (b5:Bool) (l6:List D)
 | e1 (n2 n3:Nat) (i4:Int) (b5:Bool) (l6:List D)
 | e2 (n2 n3:Nat) (i4:Int) (b5:Bool) (l6:List D)
 | e3 (n2 n3:Nat) (i4:Int) (b5:Bool) (l6:List D)
 | e4 (n2 n3:Nat) (i4:Int) (b5:Bool) (l6:List D)
 | e5 (n2 n3:Nat) (i4:Int) (b5:Bool) (l6:List D)
 | e6 (n2 n3:Nat) (i4:Int) (b5:Bool) (l6:List D)
 | e7 (n2 n3:Nat) (i4:Int) (b5:Bool) (l6:List D)
def st5 (M:Nat):S5→(S5→Option D)→(X5→Option D)→Option D
 | ⟨n2,n3,i4,b5,l6⟩,rec,K=>(cond (ltI i4 (nI n3)) (cond (inb i4 n3) (cond (ltI (ix l6 (n2+i4.toNat)).i 32) (K (.e0 n2 n3 i4 b5 l6)) (cond (eqI (ix l6 (n2+i4.toNat)).i 47) (K (.e1 n2 n3 i4 b5 l6)) (cond (geI (ix l6 (n2+i4.toNat)).i 127) (cond (leI (ix l6 (n2+i4.toNat)).i 159) (K (.e2 n2 n3 i4 b5 l6)) (cond (eqI (ix l6 (n2+i4.toNat)).i 65533) (K (.e3 n2 n3 i4 b5 l6)) (cond (geI (ix l6 (n2+i4.toNat)).i 1114112) (K (.e4 n2 n3 i4 b5 l6)) (rec ⟨n2,n3,(ad .i64 i4 1),b5,l6⟩)))) (cond (eqI (ix l6 (n2+i4.toNat)).i 65533) (K (.e5 n2 n3 i4 b5 l6)) (cond (geI (ix l6 (n2+i4.toNat)).i 1114112) (K (.e6 n2 n3 i4 b5 l6)) (rec ⟨n2,n3,(ad .i64 i4 1),b5,l6⟩)))))) none) (K (.e7 n2 n3 i4 b5 l6)))
def ex5 (k:Kont):X5→Option D
 | .e0 n2 n3 i4 b5 l6=>k .ret ((us 2 ((vb false)::(.sref 0 n2 n3)::(vi i4)::(vk (.int .i64) (ix l6 (n2+i4.toNat)))::(us 25 ((vi i4)::(.sref 0 n2 n3)::(vi (nI n3))::(vb (ltI i4 (nI n3)))::(us 2 ((.sref 0 n2 n3)::(vi i4)::(.ptr 0 [(n2+i4.toNat)] (.int .i64))::(vk (.int .i64) (ix l6 (n2+i4.toNat)))::(vk (.int .i64) (ix l6 (n2+i4.toNat)))::(vb (ltI (ix l6 (n2+i4.toNat)).i 32))::(vb true)::v0::v0::(vb true)::(vb true)::v0::v0::v0::v0::v0::v0::(vb true)::(vb true)::v0::v0::(vb true)::(vb true)::v0::v0::(vb true)::[]))))))) [(.row 3 true b5 l6)]
 | .e1 n2 n3 i4 b5 l6=>k .ret ((us 2 ((vb false)::(.sref 0 n2 n3)::(vi i4)::(vk (.int .i64) (ix l6 (n2+i4.toNat)))::(us 25 ((vi i4)::(.sref 0 n2 n3)::(vi (nI n3))::(vb (ltI i4 (nI n3)))::(us 2 ((.sref 0 n2 n3)::(vi i4)::(.ptr 0 [(n2+i4.toNat)] (.int .i64))::(vk (.int .i64) (ix l6 (n2+i4.toNat)))::(vk (.int .i64) (ix l6 (n2+i4.toNat)))::(vb (ltI (ix l6 (n2+i4.toNat)).i 32))::(vb false)::(vk (.int .i64) (ix l6 (n2+i4.toNat)))::(vb (eqI (ix l6 (n2+i4.toNat)).i 47))::(vb (eqI (ix l6 (n2+i4.toNat)).i 47))::(vb true)::v0::v0::v0::v0::v0::v0::(vb true)::(vb true)::v0::v0::(vb true)::(vb true)::v0::v0::(vb true)::[]))))))) [(.row 3 true b5 l6)]
 | .e2 n2 n3 i4 b5 l6=>k .ret ((us 2 ((vb false)::(.sref 0 n2 n3)::(vi i4)::(vk (.int .i64) (ix l6 (n2+i4.toNat)))::(us 25 ((vi i4)::(.sref 0 n2 n3)::(vi (nI n3))::(vb (ltI i4 (nI n3)))::(us 2 ((.sref 0 n2 n3)::(vi i4)::(.ptr 0 [(n2+i4.toNat)] (.int .i64))::(vk (.int .i64) (ix l6 (n2+i4.toNat)))::(vk (.int .i64) (ix l6 (n2+i4.toNat)))::(vb (ltI (ix l6 (n2+i4.toNat)).i 32))::(vb false)::(vk (.int .i64) (ix l6 (n2+i4.toNat)))::(vb (eqI (ix l6 (n2+i4.toNat)).i 47))::(vb (eqI (ix l6 (n2+i4.toNat)).i 47))::(vb false)::(vk (.int .i64) (ix l6 (n2+i4.toNat)))::(vb (geI (ix l6 (n2+i4.toNat)).i 127))::(vb true)::(vk (.int .i64) (ix l6 (n2+i4.toNat)))::(vb (leI (ix l6 (n2+i4.toNat)).i 159))::(vb (leI (ix l6 (n2+i4.toNat)).i 159))::(vb (leI (ix l6 (n2+i4.toNat)).i 159))::(vb true)::v0::v0::(vb true)::(vb true)::v0::v0::(vb true)::[]))))))) [(.row 3 true b5 l6)]
 | .e3 n2 n3 i4 b5 l6=>k .ret ((us 2 ((vb false)::(.sref 0 n2 n3)::(vi i4)::(vk (.int .i64) (ix l6 (n2+i4.toNat)))::(us 25 ((vi i4)::(.sref 0 n2 n3)::(vi (nI n3))::(vb (ltI i4 (nI n3)))::(us 2 ((.sref 0 n2 n3)::(vi i4)::(.ptr 0 [(n2+i4.toNat)] (.int .i64))::(vk (.int .i64) (ix l6 (n2+i4.toNat)))::(vk (.int .i64) (ix l6 (n2+i4.toNat)))::(vb (ltI (ix l6 (n2+i4.toNat)).i 32))::(vb false)::(vk (.int .i64) (ix l6 (n2+i4.toNat)))::(vb (eqI (ix l6 (n2+i4.toNat)).i 47))::(vb (eqI (ix l6 (n2+i4.toNat)).i 47))::(vb false)::(vk (.int .i64) (ix l6 (n2+i4.toNat)))::(vb (geI (ix l6 (n2+i4.toNat)).i 127))::(vb true)::(vk (.int .i64) (ix l6 (n2+i4.toNat)))::(vb (leI (ix l6 (n2+i4.toNat)).i 159))::(vb (leI (ix l6 (n2+i4.toNat)).i 159))::(vb (leI (ix l6 (n2+i4.toNat)).i 159))::(vb false)::(vk (.int .i64) (ix l6 (n2+i4.toNat)))::(vb (eqI (ix l6 (n2+i4.toNat)).i 65533))::(vb (eqI (ix l6 (n2+i4.toNat)).i 65533))::(vb true)::v0::v0::(vb true)::[]))))))) [(.row 3 true b5 l6)]
 | .e4 n2 n3 i4 b5 l6=>k .ret ((us 2 ((vb false)::(.sref 0 n2 n3)::(vi i4)::(vk (.int .i64) (ix l6 (n2+i4.toNat)))::(us 25 ((vi i4)::(.sref 0 n2 n3)::(vi (nI n3))::(vb (ltI i4 (nI n3)))::(us 2 ((.sref 0 n2 n3)::(vi i4)::(.ptr 0 [(n2+i4.toNat)] (.int .i64))::(vk (.int .i64) (ix l6 (n2+i4.toNat)))::(vk (.int .i64) (ix l6 (n2+i4.toNat)))::(vb (ltI (ix l6 (n2+i4.toNat)).i 32))::(vb false)::(vk (.int .i64) (ix l6 (n2+i4.toNat)))::(vb (eqI (ix l6 (n2+i4.toNat)).i 47))::(vb (eqI (ix l6 (n2+i4.toNat)).i 47))::(vb false)::(vk (.int .i64) (ix l6 (n2+i4.toNat)))::(vb (geI (ix l6 (n2+i4.toNat)).i 127))::(vb true)::(vk (.int .i64) (ix l6 (n2+i4.toNat)))::(vb (leI (ix l6 (n2+i4.toNat)).i 159))::(vb (leI (ix l6 (n2+i4.toNat)).i 159))::(vb (leI (ix l6 (n2+i4.toNat)).i 159))::(vb false)::(vk (.int .i64) (ix l6 (n2+i4.toNat)))::(vb (eqI (ix l6 (n2+i4.toNat)).i 65533))::(vb (eqI (ix l6 (n2+i4.toNat)).i 65533))::(vb false)::(vk (.int .i64) (ix l6 (n2+i4.toNat)))::(vb (geI (ix l6 (n2+i4.toNat)).i 1114112))::(vb (geI (ix l6 (n2+i4.toNat)).i 1114112))::[]))))))) [(.row 3 true b5 l6)]
 | .e5 n2 n3 i4 b5 l6=>k .ret ((us 2 ((vb false)::(.sref 0 n2 n3)::(vi i4)::(vk (.int .i64) (ix l6 (n2+i4.toNat)))::(us 25 ((vi i4)::(.sref 0 n2 n3)::(vi (nI n3))::(vb (ltI i4 (nI n3)))::(us 2 ((.sref 0 n2 n3)::(vi i4)::(.ptr 0 [(n2+i4.toNat)] (.int .i64))::(vk (.int .i64) (ix l6 (n2+i4.toNat)))::(vk (.int .i64) (ix l6 (n2+i4.toNat)))::(vb (ltI (ix l6 (n2+i4.toNat)).i 32))::(vb false)::(vk (.int .i64) (ix l6 (n2+i4.toNat)))::(vb (eqI (ix l6 (n2+i4.toNat)).i 47))::(vb (eqI (ix l6 (n2+i4.toNat)).i 47))::(vb false)::(vk (.int .i64) (ix l6 (n2+i4.toNat)))::(vb (geI (ix l6 (n2+i4.toNat)).i 127))::(vb false)::v0::v0::(vb false)::(vb false)::(vb false)::(vk (.int .i64) (ix l6 (n2+i4.toNat)))::(vb (eqI (ix l6 (n2+i4.toNat)).i 65533))::(vb (eqI (ix l6 (n2+i4.toNat)).i 65533))::(vb true)::v0::v0::(vb true)::[]))))))) [(.row 3 true b5 l6)]
 | .e6 n2 n3 i4 b5 l6=>k .ret ((us 2 ((vb false)::(.sref 0 n2 n3)::(vi i4)::(vk (.int .i64) (ix l6 (n2+i4.toNat)))::(us 25 ((vi i4)::(.sref 0 n2 n3)::(vi (nI n3))::(vb (ltI i4 (nI n3)))::(us 2 ((.sref 0 n2 n3)::(vi i4)::(.ptr 0 [(n2+i4.toNat)] (.int .i64))::(vk (.int .i64) (ix l6 (n2+i4.toNat)))::(vk (.int .i64) (ix l6 (n2+i4.toNat)))::(vb (ltI (ix l6 (n2+i4.toNat)).i 32))::(vb false)::(vk (.int .i64) (ix l6 (n2+i4.toNat)))::(vb (eqI (ix l6 (n2+i4.toNat)).i 47))::(vb (eqI (ix l6 (n2+i4.toNat)).i 47))::(vb false)::(vk (.int .i64) (ix l6 (n2+i4.toNat)))::(vb (geI (ix l6 (n2+i4.toNat)).i 127))::(vb false)::v0::v0::(vb false)::(vb false)::(vb false)::(vk (.int .i64) (ix l6 (n2+i4.toNat)))::(vb (eqI (ix l6 (n2+i4.toNat)).i 65533))::(vb (eqI (ix l6 (n2+i4.toNat)).i 65533))::(vb false)::(vk (.int .i64) (ix l6 (n2+i4.toNat)))::(vb (geI (ix l6 (n2+i4.toNat)).i 1114112))::(vb (geI (ix l6 (n2+i4.toNat)).i 1114112))::[]))))))) [(.row 3 true b5 l6)]
 | .e7 n2 n3 i4 b5 l6=>k (.exit 0) ((us 3 ((.sref 0 n2 n3)::(vi i4)::(us 26 ((vi i4)::(.sref 0 n2 n3)::(vi (nI n3))::(vb (ltI i4 (nI n3)))::(us 28 [])))))) [(.row 3 true b5 l6)]
def lv5:S5→List Leaf
 | ⟨n2,n3,i4,b5,l6⟩=>[.n n2,.n n3,.i i4,.b b5,.l l6]
def of5:List Leaf→Option S5
 | [.n n2,.n n3,.i i4,.b b5,.l l6]=>some ⟨n2,n3,i4,b5,l6⟩
 | _=>none
def ps5:List PV:=((up 3 ((.sref 0)::(.d (.int .i64) (.int .i64))::(up 58 []))))
def qs5:List PO:=[(.row 3 true)]
noncomputable def t (M:Nat):List Ent:=⟨169,11,0,5,sumS [3,4] ps5 qs5 [] of5 (st5 M) ex5 M⟩::[]
theorem t_ok (M:Nat):AllOk (e M) (tblOf (t M)):=AllOk.addS (n0:=1) (lv:=lv5) AllOk.nil (by kernel_rfl) rfl (by intro ls s h;unfold of5 at h;(repeat' split at h)<;>simp at h;subst h;rfl) (by intro s;kernel_rfl) (by intro s;kernel_rfl) (by intro s nx k;kernel_rfl)
def s (M:Nat) (p0:ByteArray):Option D:=
 (bd (F227.s FUEL p0) fun r1=>(cond (ltI (nI r1.elems.length) 1) (some (db false)) (cond (gtI (nI r1.elems.length) 24) (some (db false)) (cond (inb 0 r1.elems.length) (cond (eqI (ix r1.elems 0).i 32) (some (db false)) (cond (inb (sb .i64 (nI r1.elems.length) 1) r1.elems.length) (cond (eqI (ix r1.elems (0+(sb .i64 (nI r1.elems.length) 1).toNat)).i 32) (some (db false)) (goS (st5 M) M ⟨0,r1.elems.length,0,r1.nn,r1.elems⟩ fun x=>match x with | .e0 n2 n3 i4 b5 l6=>(some (db false)) | .e1 n2 n3 i4 b5 l6=>(some (db false)) | .e2 n2 n3 i4 b5 l6=>(some (db false)) | .e3 n2 n3 i4 b5 l6=>(some (db false)) | .e4 n2 n3 i4 b5 l6=>(some (db false)) | .e5 n2 n3 i4 b5 l6=>(some (db false)) | .e6 n2 n3 i4 b5 l6=>(some (db false)) | .e7 n2 n3 i4 b5 l6=>(some (db true)))) none)) none))))
theorem run (M:Nat) (p0:ByteArray):callS (e M) (tblOf (t M)) 12 (.fn 169) [.d .str (dS p0)] [] (fun v H=>finish ty [4] v H)=s M p0:=by kernel_rfl
def c:Con:={ run:=fun ds=>match ds with | [p0]=>s FUEL p0.s | _=>none,plain:=true }
theorem ok:ConOk (169,c):=mkC Tryz.f169 [.str] [4] (by kernel_rfl) (by kernel_rfl) (by kernel_rfl) (by kernel_rfl) (allCons F227.ok allNil) allNil (t_ok FUEL) fun a=>run FUEL a.1
end F169
namespace F170
def cons:List (Nat×Con):=[(227,F227.c)]
def exts:List (Nat×Ext):=[]
def h:List (Nat×Nat×Hint):=[(170,4,{ live:=[5,6,7] })]
noncomputable def e (M:Nat):Env:=env cons exts h M
structure S4 where
 (n3 n4 n5 n6:Nat) (i7:Int) (b8:Bool) (l9:List D) (b10:Bool) (l11:List D)
inductive X4 where
 | e0 (n3 n4 n5 n6:Nat) (i7:Int) (b8:Bool) (l9:List D) (b10:Bool) (l11:List D)
 | e1 (n3 n4 n5 n6:Nat) (i7:Int) (b8:Bool) (l9:List D) (b10:Bool) (l11:List D)
 | e2 (n3 n4 n5 n6:Nat) (i7:Int) (b8:Bool) (l9:List D) (b10:Bool) (l11:List D)
def st4 (M:Nat):S4→(S4→Option D)→(X4→Option D)→Option D
 | ⟨n3,n4,n5,n6,i7,b8,l9,b10,l11⟩,rec,K=>(cond (ltI i7 (nI n4)) (cond (ltI i7 (nI n6)) (cond (inb i7 n4) (cond (inb i7 n6) (cond (neI (ix l9 (n3+i7.toNat)).i (ix l11 (n5+i7.toNat)).i) (cond (inb i7 n4) (cond (inb i7 n6) (K (.e0 n3 n4 n5 n6 i7 b8 l9 b10 l11)) none) none) (rec ⟨n3,n4,n5,n6,(ad .i64 i7 1),b8,l9,b10,l11⟩)) none) none) (K (.e1 n3 n4 n5 n6 i7 b8 l9 b10 l11))) (K (.e2 n3 n4 n5 n6 i7 b8 l9 b10 l11)))
def ex4 (k:Kont):X4→Option D
 | .e0 n3 n4 n5 n6 i7 b8 l9 b10 l11=>k .ret ((us 4 ((vb (ltI (ix l9 (n3+i7.toNat)).i (ix l11 (n5+i7.toNat)).i))::(.sref 0 n3 n4)::(.sref 1 n5 n6)::(vi i7)::(us 4 ((vi i7)::(.sref 0 n3 n4)::(vi (nI n4))::(vb (ltI i7 (nI n4)))::(vb true)::(vi i7)::(.sref 1 n5 n6)::(vi (nI n6))::(vb (ltI i7 (nI n6)))::(vb (ltI i7 (nI n6)))::(us 2 ((.sref 0 n3 n4)::(vi i7)::(.ptr 0 [(n3+i7.toNat)] (.int .i64))::(vk (.int .i64) (ix l9 (n3+i7.toNat)))::(.sref 1 n5 n6)::(vi i7)::(.ptr 1 [(n5+i7.toNat)] (.int .i64))::(vk (.int .i64) (ix l11 (n5+i7.toNat)))::(vb (neI (ix l9 (n3+i7.toNat)).i (ix l11 (n5+i7.toNat)).i))::(.sref 0 n3 n4)::(vi i7)::(.ptr 0 [(n3+i7.toNat)] (.int .i64))::(vk (.int .i64) (ix l9 (n3+i7.toNat)))::(.sref 1 n5 n6)::(vi i7)::(.ptr 1 [(n5+i7.toNat)] (.int .i64))::(vk (.int .i64) (ix l11 (n5+i7.toNat)))::(vb (ltI (ix l9 (n3+i7.toNat)).i (ix l11 (n5+i7.toNat)).i))::(us 5 [])))))))) [(.row 3 true b8 l9),(.row 3 true b10 l11)]
 | .e1 n3 n4 n5 n6 i7 b8 l9 b10 l11=>k (.exit 0) ((us 5 ((.sref 0 n3 n4)::(.sref 1 n5 n6)::(vi i7)::(us 4 ((vi i7)::(.sref 0 n3 n4)::(vi (nI n4))::(vb (ltI i7 (nI n4)))::(vb true)::(vi i7)::(.sref 1 n5 n6)::(vi (nI n6))::(vb (ltI i7 (nI n6)))::(vb (ltI i7 (nI n6)))::(us 25 [])))))) [(.row 3 true b8 l9),(.row 3 true b10 l11)]
 | .e2 n3 n4 n5 n6 i7 b8 l9 b10 l11=>k (.exit 0) ((us 5 ((.sref 0 n3 n4)::(.sref 1 n5 n6)::(vi i7)::(us 4 ((vi i7)::(.sref 0 n3 n4)::(vi (nI n4))::(vb (ltI i7 (nI n4)))::(vb false)::v0::v0::v0::v0::(vb false)::(us 25 [])))))) [(.row 3 true b8 l9),(.row 3 true b10 l11)]
def lv4:S4→List Leaf
 | ⟨n3,n4,n5,n6,i7,b8,l9,b10,l11⟩=>[.n n3,.n n4,.n n5,.n n6,.i i7,.b b8,.l l9,.b b10,.l l11]
def of4:List Leaf→Option S4
 | [.n n3,.n n4,.n n5,.n n6,.i i7,.b b8,.l l9,.b b10,.l l11]=>some ⟨n3,n4,n5,n6,i7,b8,l9,b10,l11⟩
 | _=>none
def ps4:List PV:=((up 5 ((.sref 0)::(.sref 1)::(.d (.int .i64) (.int .i64))::(up 39 []))))
def qs4:List PO:=[(.row 3 true),(.row 3 true)]
noncomputable def t (M:Nat):List Ent:=⟨170,11,0,4,sumS [5,6,7] ps4 qs4 [] of4 (st4 M) ex4 M⟩::[]
theorem t_ok (M:Nat):AllOk (e M) (tblOf (t M)):=AllOk.addS (n0:=2) (lv:=lv4) AllOk.nil (by kernel_rfl) rfl (by intro ls s h;unfold of4 at h;(repeat' split at h)<;>simp at h;subst h;rfl) (by intro s;kernel_rfl) (by intro s;kernel_rfl) (by intro s nx k;kernel_rfl)
def s (M:Nat) (p0:ByteArray) (p1:ByteArray):Option D:=
 (bd (F227.s FUEL p0) fun r1=>(bd (F227.s FUEL p1) fun r2=>(goS (st4 M) M ⟨0,r1.elems.length,0,r2.elems.length,0,r1.nn,r1.elems,r2.nn,r2.elems⟩ fun x=>match x with | .e0 n3 n4 n5 n6 i7 b8 l9 b10 l11=>(some (db (ltI (ix l9 (n3+i7.toNat)).i (ix l11 (n5+i7.toNat)).i))) | .e1 n3 n4 n5 n6 i7 b8 l9 b10 l11=>(some (db (ltI (nI n4) (nI n6)))) | .e2 n3 n4 n5 n6 i7 b8 l9 b10 l11=>(some (db (ltI (nI n4) (nI n6)))))))
theorem run (M:Nat) (p0:ByteArray) (p1:ByteArray):callS (e M) (tblOf (t M)) 12 (.fn 170) [.d .str (dS p0),.d .str (dS p1)] [] (fun v H=>finish ty [4] v H)=s M p0 p1:=by kernel_rfl
def c:Con:={ run:=fun ds=>match ds with | [p0,p1]=>s FUEL p0.s p1.s | _=>none,plain:=true }
theorem ok:ConOk (170,c):=mkC Tryz.f170 [.str,.str] [4] (by kernel_rfl) (by kernel_rfl) (by kernel_rfl) (by kernel_rfl) (allCons F227.ok allNil) allNil (t_ok FUEL) fun a=>run FUEL a.1 a.2.1
end F170
namespace F112
def k0_:K:=(.struct [3,9,9,4,3,66])
def cons:List (Nat×Con):=[(169,F169.c),(170,F170.c)]
def exts:List (Nat×Ext):=[]
def h:List (Nat×Nat×Hint):=[(112,7,{ live:=[1,4],out:=some [2] })]
noncomputable def e (M:Nat):Env:=env cons exts h M
structure S7 where
 (i2:Int) (d3:D)
inductive X7 where
 | e0 (d3:D)
 | e1 (d3:D)
def st7 (M:Nat):S7→(S7→Option D)→(X7→Option D)→Option D
 | ⟨i2,d3⟩,rec,K=>(cond (ltI i2 (nI (d3.at 5).elems.length)) (cond (inb i2 (d3.at 5).elems.length) (bd (F169.s FUEL (ix (d3.at 5).elems i2.toNat).s) fun r4=>(cond (!r4.b) (K (.e0 d3)) (cond (gtI i2 0) (cond (inb (sb .i64 i2 1) (d3.at 5).elems.length) (cond (inb i2 (d3.at 5).elems.length) (bd (F170.s FUEL (ix (d3.at 5).elems (sb .i64 i2 1).toNat).s (ix (d3.at 5).elems i2.toNat).s) fun r5=>(cond (!r5.b) (K (.e0 d3)) (rec ⟨(ad .i64 i2 1),d3⟩))) none) none) (rec ⟨(ad .i64 i2 1),d3⟩)))) none) (K (.e1 d3)))
def ex7 (k:Kont):X7→Option D
 | .e0 d3=>k .ret ((us 2 ((vb false)::(us 86 [])))) [(.var k0_ (vk k0_ d3))]
 | .e1 d3=>k (.exit 0) ((us 89 [])) [(.var k0_ (vk k0_ d3))]
def lv7:S7→List Leaf
 | ⟨i2,d3⟩=>[.i i2,.d d3]
def of7:List Leaf→Option S7
 | [.i i2,.d d3]=>some ⟨i2,d3⟩
 | _=>none
def ps7:List PV:=((up 1 ((.ptr 0 [] k0_)::(up 2 ((.d (.int .i64) (.int .i64))::(up 84 []))))))
def qs7:List PO:=[(.var k0_ (.d k0_ .x))]
noncomputable def t (M:Nat):List Ent:=⟨112,11,0,7,sumS [1,4] ps7 qs7 [] of7 (st7 M) ex7 M⟩::[]
theorem t_ok (M:Nat):AllOk (e M) (tblOf (t M)):=AllOk.addS (n0:=1) (lv:=lv7) AllOk.nil (by kernel_rfl) rfl (by intro ls s h;unfold of7 at h;(repeat' split at h)<;>simp at h;subst h;rfl) (by intro s;kernel_rfl) (by intro s;kernel_rfl) (by intro s nx k;kernel_rfl)
def s (M:Nat) (p0:D):Option D:=
 (bd (F169.s FUEL (p0.at 1).s) fun r1=>(cond (ltI (p0.at 0).i 1) (some (db false)) (cond (gtI (p0.at 0).i 1099511627776) (some (db false)) (cond (!r1.b) (some (db false)) (cond (gtI (nI (p0.at 2).s.size) 600) (some (db false)) (cond (ltI (p0.at 4).i 0) (some (db false)) (cond (gtI (p0.at 4).i 1099511627776) (some (db false)) (cond (gtI (nI (p0.at 5).elems.length) 4) (some (db false)) (cond (!(p0.at 3).b) (cond (neI (p0.at 4).i 0) (some (db false)) (cond (gtI (nI (p0.at 5).elems.length) 0) (some (db false)) (goS (st7 M) M ⟨0,p0⟩ fun x=>match x with | .e0 d3=>(some (db false)) | .e1 d3=>(some (db true))))) (goS (st7 M) M ⟨0,p0⟩ fun x=>match x with | .e0 d3=>(some (db false)) | .e1 d3=>(some (db true))))))))))))
theorem run (M:Nat) (p0:D):callS (e M) (tblOf (t M)) 12 (.fn 112) [.d (.struct [3,9,9,4,3,66]) p0] [] (fun v H=>finish ty [4] v H)=s M p0:=by kernel_rfl
def c:Con:={ run:=fun ds=>match ds with | [p0]=>s FUEL p0 | _=>none,plain:=true }
theorem ok:ConOk (112,c):=mkC Tryz.f112 [(.struct [3,9,9,4,3,66])] [4] (by kernel_rfl) (by kernel_rfl) (by kernel_rfl) (by kernel_rfl) (allCons F169.ok (allCons F170.ok allNil)) allNil (t_ok FUEL) fun a=>run FUEL a.1
end F112
namespace F113
def k0_:K:=(.struct [22,3,3])
def cons:List (Nat×Con):=[]
def exts:List (Nat×Ext):=[]
def h:List (Nat×Nat×Hint):=[(113,2,{ live:=[1,2,5] })]
noncomputable def e (M:Nat):Env:=env cons exts h M
structure S2 where
 (s1:ByteArray) (i2:Int) (d3:D)
inductive X2 where
 | e0 (s1:ByteArray) (i2:Int) (d3:D)
 | e1 (s1:ByteArray) (i2:Int) (d3:D)
def st2 (M:Nat):S2→(S2→Option D)→(X2→Option D)→Option D
 | ⟨s1,i2,d3⟩,rec,K=>(cond (ltI i2 (nI (d3.at 0).elems.length)) (cond (inb i2 (d3.at 0).elems.length) (cond (eqS ((ix (d3.at 0).elems i2.toNat).at 1).s s1) (K (.e0 s1 i2 d3)) (rec ⟨s1,(ad .i64 i2 1),d3⟩)) none) (K (.e1 s1 i2 d3)))
def ex2 (k:Kont):X2→Option D
 | .e0 s1 i2 d3=>k .ret ((us 1 ((vS s1)::(.ptr 0 [] k0_)::(us 1 ((vi i2)::(vi i2)::(vi i2)::(.ptr 0 [0] (.slice 68))::(vk (.slice 68) (d3.at 0))::(vi (nI (d3.at 0).elems.length))::(vb (ltI i2 (nI (d3.at 0).elems.length)))::(us 2 ((.ptr 0 [0] (.slice 68))::(vk (.slice 68) (d3.at 0))::(vi i2)::(.cptr (.struct [3,9,9,4,3,66]) (ix (d3.at 0).elems i2.toNat))::(.cptr .str ((ix (d3.at 0).elems i2.toNat).at 1))::(vk .str ((ix (d3.at 0).elems i2.toNat).at 1))::(vS s1)::(vb (eqS ((ix (d3.at 0).elems i2.toNat).at 1).s s1))::(vi i2)::[]))))))) [(.var k0_ (vk k0_ d3))]
 | .e1 s1 i2 d3=>k (.exit 0) ((us 1 ((vS s1)::(.ptr 0 [] k0_)::(us 2 ((vi i2)::(vi i2)::(.ptr 0 [0] (.slice 68))::(vk (.slice 68) (d3.at 0))::(vi (nI (d3.at 0).elems.length))::(vb (ltI i2 (nI (d3.at 0).elems.length)))::(us 11 [])))))) [(.var k0_ (vk k0_ d3))]
def lv2:S2→List Leaf
 | ⟨s1,i2,d3⟩=>[.s s1,.i i2,.d d3]
def of2:List Leaf→Option S2
 | [.s s1,.i i2,.d d3]=>some ⟨s1,i2,d3⟩
 | _=>none
def ps2:List PV:=((up 1 ((.d .str .str)::(.ptr 0 [] k0_)::(up 2 ((.d (.int .i64) (.int .i64))::(up 16 []))))))
def qs2:List PO:=[(.var k0_ (.d k0_ .x))]
noncomputable def t (M:Nat):List Ent:=⟨113,11,0,2,sumS [1,2,5] ps2 qs2 [] of2 (st2 M) ex2 M⟩::[]
theorem t_ok (M:Nat):AllOk (e M) (tblOf (t M)):=AllOk.addS (n0:=1) (lv:=lv2) AllOk.nil (by kernel_rfl) rfl (by intro ls s h;unfold of2 at h;(repeat' split at h)<;>simp at h;subst h;rfl) (by intro s;kernel_rfl) (by intro s;kernel_rfl) (by intro s nx k;kernel_rfl)
def s (M:Nat) (p0:D) (p1:ByteArray):Option D:=
 (goS (st2 M) M ⟨p1,0,p0⟩ fun x=>match x with | .e0 s1 i2 d3=>(some (di i2)) | .e1 s1 i2 d3=>(some (di (-1))))
theorem run (M:Nat) (p0:D) (p1:ByteArray):callS (e M) (tblOf (t M)) 12 (.fn 113) [.d (.struct [22,3,3]) p0,.d .str (dS p1)] [] (fun v H=>finish ty [3] v H)=s M p0 p1:=by kernel_rfl
def c:Con:={ run:=fun ds=>match ds with | [p0,p1]=>s FUEL p0 p1.s | _=>none,plain:=true }
theorem ok:ConOk (113,c):=mkC Tryz.f113 [(.struct [22,3,3]),.str] [3] (by kernel_rfl) (by kernel_rfl) (by kernel_rfl) (by kernel_rfl) allNil allNil (t_ok FUEL) fun a=>run FUEL a.1 a.2.1
end F113
namespace F63
def k0_:K:=(.struct [22,3,3])
def cons:List (Nat×Con):=[(112,F112.c),(113,F113.c)]
def exts:List (Nat×Ext):=[]
def h:List (Nat×Nat×Hint):=[(63,4,{ live:=[1,3],out:=some [2] })]
noncomputable def e (M:Nat):Env:=env cons exts h M
structure S4 where
 (i1:Int) (d2:D)
inductive X4 where
 | e0 (d2:D)
 | e1 (d2:D)
def st4 (M:Nat):S4→(S4→Option D)→(X4→Option D)→Option D
 | ⟨i1,d2⟩,rec,K=>(cond (ltI i1 (nI (d2.at 0).elems.length)) (cond (inb i1 (d2.at 0).elems.length) (bd (F112.s FUEL (ix (d2.at 0).elems i1.toNat)) fun r3=>(cond (!r3.b) (K (.e0 d2)) (cond (inb i1 (d2.at 0).elems.length) (cond (gtI ((ix (d2.at 0).elems i1.toNat).at 0).i (d2.at 1).i) (K (.e0 d2)) (cond (inb i1 (d2.at 0).elems.length) (bd (F113.s FUEL d2 ((ix (d2.at 0).elems i1.toNat).at 1).s) fun r4=>(cond (neI r4.i i1) (K (.e0 d2)) (cond (gtI i1 0) (cond (inb (sb .i64 i1 1) (d2.at 0).elems.length) (cond (inb i1 (d2.at 0).elems.length) (cond (geI ((ix (d2.at 0).elems (sb .i64 i1 1).toNat).at 0).i ((ix (d2.at 0).elems i1.toNat).at 0).i) (K (.e0 d2)) (rec ⟨(ad .i64 i1 1),d2⟩)) none) none) (rec ⟨(ad .i64 i1 1),d2⟩)))) none)) none))) none) (K (.e1 d2)))
def ex4 (k:Kont):X4→Option D
 | .e0 d2=>k .ret ((us 2 ((vb false)::(us 84 [])))) [(.var k0_ (vk k0_ d2))]
 | .e1 d2=>k (.exit 0) ((us 87 [])) [(.var k0_ (vk k0_ d2))]
def lv4:S4→List Leaf
 | ⟨i1,d2⟩=>[.i i1,.d d2]
def of4:List Leaf→Option S4
 | [.i i1,.d d2]=>some ⟨i1,d2⟩
 | _=>none
def ps4:List PV:=((up 1 ((.ptr 0 [] k0_)::(up 1 ((.d (.int .i64) (.int .i64))::(up 83 []))))))
def qs4:List PO:=[(.var k0_ (.d k0_ .x))]
noncomputable def t (M:Nat):List Ent:=⟨63,11,0,4,sumS [1,3] ps4 qs4 [] of4 (st4 M) ex4 M⟩::[]
theorem t_ok (M:Nat):AllOk (e M) (tblOf (t M)):=AllOk.addS (n0:=1) (lv:=lv4) AllOk.nil (by kernel_rfl) rfl (by intro ls s h;unfold of4 at h;(repeat' split at h)<;>simp at h;subst h;rfl) (by intro s;kernel_rfl) (by intro s;kernel_rfl) (by intro s nx k;kernel_rfl)
def s (M:Nat) (p0:D):Option D:=
 (cond (gtI (nI (p0.at 0).elems.length) 12) (some (db false)) (cond (ltI (p0.at 1).i 0) (some (db false)) (cond (gtI (p0.at 1).i 1099511627776) (some (db false)) (cond (ltI (p0.at 2).i 0) (some (db false)) (cond (gtI (p0.at 2).i 1099511627776) (some (db false)) (goS (st4 M) M ⟨0,p0⟩ fun x=>match x with | .e0 d2=>(some (db false)) | .e1 d2=>(some (db true))))))))
theorem run (M:Nat) (p0:D):callS (e M) (tblOf (t M)) 12 (.fn 63) [.d (.struct [22,3,3]) p0] [] (fun v H=>finish ty [4] v H)=s M p0:=by kernel_rfl
def c:Con:={ run:=fun ds=>match ds with | [p0]=>s FUEL p0 | _=>none,plain:=true }
theorem ok:ConOk (63,c):=mkC Tryz.f63 [(.struct [22,3,3])] [4] (by kernel_rfl) (by kernel_rfl) (by kernel_rfl) (by kernel_rfl) (allCons F112.ok (allCons F113.ok allNil)) allNil (t_ok FUEL) fun a=>run FUEL a.1
end F63
namespace F64
def cons:List (Nat×Con):=[]
def exts:List (Nat×Ext):=[]
def h:List (Nat×Nat×Hint):=[(64,3,{ live:=[0,3],rows:=[(3,5)],out:=some [0,3] })]
noncomputable def e (M:Nat):Env:=env cons exts h M
structure S3 where
 (i1:Int) (n2 n3:Nat) (b4:Bool) (l5:List D)
inductive X3 where
 | e0 (i1:Int) (n2 n3:Nat) (b4:Bool) (l5:List D)
def st3 (M:Nat):S3→(S3→Option D)→(X3→Option D)→Option D
 | ⟨i1,n2,n3,b4,l5⟩,rec,K=>(cond (geI i1 128) (cond (mx (n3+1)) (rec ⟨(quoI .i64 i1 128),0,(n3+1),(b4||true),(ap ((l5.drop n2).take n3) [(D.int .u8 (cv .u8 (ad .i64 (remI i1 128) 128)))])⟩) none) (K (.e0 i1 n2 n3 b4 l5)))
def ex3 (k:Kont):X3→Option D
 | .e0 i1 n2 n3 b4 l5=>k (.exit 0) ((vi i1)::(us 2 ((.sref 0 n2 n3)::(us 20 [])))) [(.row 5 true b4 l5)]
def lv3:S3→List Leaf
 | ⟨i1,n2,n3,b4,l5⟩=>[.i i1,.n n2,.n n3,.b b4,.l l5]
def of3:List Leaf→Option S3
 | [.i i1,.n n2,.n n3,.b b4,.l l5]=>some ⟨i1,n2,n3,b4,l5⟩
 | _=>none
def ps3:List PV:=((.d (.int .i64) (.int .i64))::(up 2 ((.sref 0)::(up 20 []))))
def qs3:List PO:=[(.row 5 true)]
noncomputable def t (M:Nat):List Ent:=⟨64,11,0,3,sumS [0,3] ps3 qs3 [(3,0)] of3 (st3 M) ex3 M⟩::[]
theorem t_ok (M:Nat):AllOk (e M) (tblOf (t M)):=AllOk.addS (n0:=1) (lv:=lv3) AllOk.nil (by kernel_rfl) rfl (by intro ls s h;unfold of3 at h;(repeat' split at h)<;>simp at h;subst h;rfl) (by intro s;kernel_rfl) (by intro s;kernel_rfl) (by intro s nx k;kernel_rfl)
def s (M:Nat) (p0:Int):Option D:=
 (goS (st3 M) M ⟨(mini (maxi p0 0) 1125899906842624),0,0,false,[]⟩ fun x=>match x with | .e0 i1 n2 n3 b4 l5=>(cond (mx (n3+1)) (some (dS (ofBytes (((ap ((l5.drop n2).take n3) [(D.int .u8 (cv .u8 i1))]).drop 0).take (n3+1))))) none))
theorem run (M:Nat) (p0:Int):callS (e M) (tblOf (t M)) 12 (.fn 64) [.d (.int .i64) (di p0)] [] (fun v H=>finish ty [9] v H)=s M p0:=by kernel_rfl
def c:Con:={ run:=fun ds=>match ds with | [p0]=>s FUEL p0.i | _=>none,plain:=true }
theorem ok:ConOk (64,c):=mkC Tryz.f64 [(.int .i64)] [9] (by kernel_rfl) (by kernel_rfl) (by kernel_rfl) (by kernel_rfl) allNil allNil (t_ok FUEL) fun a=>run FUEL a.1
end F64
namespace F65
def cons:List (Nat×Con):=[(64,F64.c)]
def exts:List (Nat×Ext):=[]
def h:List (Nat×Nat×Hint):=[]
noncomputable def e (M:Nat):Env:=env cons exts h M
def s (M:Nat) (p0:ByteArray):Option D:=
 (bd (F64.s FUEL (nI p0.size)) fun r1=>(bd (cat r1.s p0) fun r2=>(some r2)))
theorem run (M:Nat) (p0:ByteArray):callS (e M) (tblOf []) 12 (.fn 65) [.d .str (dS p0)] [] (fun v H=>finish ty [9] v H)=s M p0:=by kernel_rfl
def c:Con:={ run:=fun ds=>match ds with | [p0]=>s FUEL p0.s | _=>none,plain:=true }
theorem ok:ConOk (65,c):=mkC Tryz.f65 [.str] [9] (by kernel_rfl) (by kernel_rfl) (by kernel_rfl) (by kernel_rfl) (allCons F64.ok allNil) allNil AllOk.nil fun a=>run FUEL a.1
end F65
namespace F66
def cons:List (Nat×Con):=[]
def exts:List (Nat×Ext):=[]
def h:List (Nat×Nat×Hint):=[(66,3,{ live:=[0,1,2,3,9,10],rows:=[(9,62)],out:=some [9] })]
noncomputable def e (M:Nat):Env:=env cons exts h M
structure S3 where
 (s1:ByteArray) (i2 i3 i4:Int) (n5 n6:Nat) (i7:Int) (b8:Bool) (l9:List D)
inductive X3 where
 | e0 (n5 n6:Nat) (b8:Bool) (l9:List D)
def st3 (M:Nat):S3→(S3→Option D)→(X3→Option D)→Option D
 | ⟨s1,i2,i3,i4,n5,n6,i7,b8,l9⟩,rec,K=>(cond (ltI (ml .i64 i7 i2) (nI s1.size)) (cond ((leI 0 (ml .i64 i7 i2))&&(leI (ml .i64 i7 i2) (mini (ml .i64 (ad .i64 i7 1) i2) (nI s1.size)))&&(leI (mini (ml .i64 (ad .i64 i7 1) i2) (nI s1.size)) (nI s1.size))&&(leI (nI s1.size) (nI s1.size))) (cond (mx (n6+1)) (rec ⟨s1,i2,i3,i4,0,(n6+1),(ad .i64 i7 1),(b8||true),(ap ((l9.drop n5).take n6) [(da [(di (ad .i64 i4 i7)),(di i3),(dS (s1.extract (ml .i64 i7 i2).toNat (mini (ml .i64 (ad .i64 i7 1) i2) (nI s1.size)).toNat))])])⟩) none) none) (K (.e0 n5 n6 b8 l9)))
def ex3 (k:Kont):X3→Option D
 | .e0 n5 n6 b8 l9=>k (.exit 0) ((us 9 ((.sref 0 n5 n6)::(us 30 [])))) [(.row 62 true b8 l9)]
def lv3:S3→List Leaf
 | ⟨s1,i2,i3,i4,n5,n6,i7,b8,l9⟩=>[.s s1,.i i2,.i i3,.i i4,.n n5,.n n6,.i i7,.b b8,.l l9]
def of3:List Leaf→Option S3
 | [.s s1,.i i2,.i i3,.i i4,.n n5,.n n6,.i i7,.b b8,.l l9]=>some ⟨s1,i2,i3,i4,n5,n6,i7,b8,l9⟩
 | _=>none
def ps3:List PV:=((.d .str .str)::(.d (.int .i64) (.int .i64))::(.d (.int .i64) (.int .i64))::(.d (.int .i64) (.int .i64))::(up 5 ((.sref 0)::(.d (.int .i64) (.int .i64))::(up 29 []))))
def qs3:List PO:=[(.row 62 true)]
noncomputable def t (M:Nat):List Ent:=⟨66,11,0,3,sumS [0,1,2,3,9,10] ps3 qs3 [(9,0)] of3 (st3 M) ex3 M⟩::[]
theorem t_ok (M:Nat):AllOk (e M) (tblOf (t M)):=AllOk.addS (n0:=1) (lv:=lv3) AllOk.nil (by kernel_rfl) rfl (by intro ls s h;unfold of3 at h;(repeat' split at h)<;>simp at h;subst h;rfl) (by intro s;kernel_rfl) (by intro s;kernel_rfl) (by intro s nx k;kernel_rfl)
def s (M:Nat) (p0:ByteArray) (p1:Int) (p2:Int) (p3:Int):Option D:=
 (goS (st3 M) M ⟨p0,p1,p2,p3,0,0,0,false,[]⟩ fun x=>match x with | .e0 n5 n6 b8 l9=>(cond ((decide (n6=l9.length))&&(decide (n5=0))) (some (.slice b8 l9)) none))
theorem run (M:Nat) (p0:ByteArray) (p1:Int) (p2:Int) (p3:Int):callS (e M) (tblOf (t M)) 12 (.fn 66) [.d .str (dS p0),.d (.int .i64) (di p1),.d (.int .i64) (di p2),.d (.int .i64) (di p3)] [] (fun v H=>finishFresh ty [36] v H)=s M p0 p1 p2 p3:=by kernel_rfl
def c:Con:={ run:=fun ds=>match ds with | [p0,p1,p2,p3]=>s FUEL p0.s p1.i p2.i p3.i | _=>none,fresh:=true }
theorem ok:ConOk (66,c):=mkF Tryz.f66 [.str,(.int .i64),(.int .i64),(.int .i64)] [36] (by kernel_rfl) (by kernel_rfl) (by kernel_rfl) allNil allNil (t_ok FUEL) fun a=>run FUEL a.1 a.2.1 a.2.2.1 a.2.2.2.1
end F66
namespace F115
def cons:List (Nat×Con):=[]
def exts:List (Nat×Ext):=[]
def h:List (Nat×Nat×Hint):=[]
noncomputable def e (M:Nat):Env:=env cons exts h M
def s (M:Nat) (p0:Int):Option D:=
 (cond (eqI p0 0) (cond (eqI p0 0) (some (da [(db true),(db true),(db false),(db false),(db false)])) (cond (eqI p0 1) (some (da [(db true),(db false),(db false),(db true),(db false)])) (cond (eqI p0 2) (some (da [(db true),(db false),(db true),(db true),(db true)])) (cond (eqI p0 3) (some (da [(db true),(db false),(db true),(db false),(db false)])) (cond (eqI p0 6) (some (da [(db true),(db false),(db false),(db false),(db false)])) (cond (eqI p0 7) (some (da [(db false),(db false),(db true),(db false),(db false)])) (some (da (rp 5 (db false)))))))))) (cond (eqI p0 4) (cond (eqI p0 4) (some (da [(db true),(db true),(db false),(db false),(db false)])) (cond (eqI p0 1) (some (da [(db true),(db false),(db false),(db true),(db false)])) (cond (eqI p0 2) (some (da [(db true),(db false),(db true),(db true),(db true)])) (cond (eqI p0 3) (some (da [(db true),(db false),(db true),(db false),(db false)])) (cond (eqI p0 6) (some (da [(db true),(db false),(db false),(db false),(db false)])) (cond (eqI p0 7) (some (da [(db false),(db false),(db true),(db false),(db false)])) (some (da (rp 5 (db false)))))))))) (cond (eqI p0 5) (some (da [(db true),(db true),(db false),(db false),(db false)])) (cond (eqI p0 1) (some (da [(db true),(db false),(db false),(db true),(db false)])) (cond (eqI p0 2) (some (da [(db true),(db false),(db true),(db true),(db true)])) (cond (eqI p0 3) (some (da [(db true),(db false),(db true),(db false),(db false)])) (cond (eqI p0 6) (some (da [(db true),(db false),(db false),(db false),(db false)])) (cond (eqI p0 7) (some (da [(db false),(db false),(db true),(db false),(db false)])) (some (da (rp 5 (db false))))))))))))
theorem run (M:Nat) (p0:Int):callS (e M) (tblOf []) 12 (.fn 115) [.d (.int .i64) (di p0)] [] (fun v H=>finish ty [188] v H)=s M p0:=by kernel_rfl
def c:Con:={ run:=fun ds=>match ds with | [p0]=>s FUEL p0.i | _=>none,plain:=true }
theorem ok:ConOk (115,c):=mkC Tryz.f115 [(.int .i64)] [188] (by kernel_rfl) (by kernel_rfl) (by kernel_rfl) (by kernel_rfl) allNil allNil AllOk.nil fun a=>run FUEL a.1
end F115
namespace F114
def cons:List (Nat×Con):=[(115,F115.c),(169,F169.c)]
def exts:List (Nat×Ext):=[]
def h:List (Nat×Nat×Hint):=[]
noncomputable def e (M:Nat):Env:=env cons exts h M
def B (t g1 g2 e:Bool) (k:Bool→Option D):Option D:=
 cond t (cond g1 (cond g2 (k true) (cond (!t) (k e) (k false))) (cond (!t) (k e) (k false))) (cond (!t) (k e) (k false))
def C (t g e:Bool) (k:Bool→Option D):Option D:=
 cond t (cond g (k true) (cond (!t) (k e) (k false))) (cond (!t) (k e) (k false))
def E (a b c d:Bool) (x:D):Option D:=cond a (cond b (cond c (cond d (some x) (some (db false))) (some (db false))) (some (db false))) (some (db false))
def W4 (p0 r1:D) (a b c d:Bool):Option D:=(cond (r1.at 4).b (E a b c d (db true)) (bd (match D.eqv ty eqDepth (p0.at 5) (da (rp 32 (D.int .u8 0))) (.array 32 5) with | some z=>some (.bool z) | none=>none) fun r3=>E a b c d r3))
def W3 (p0 r1:D) (least:Int) (a b c:Bool):Option D:=B (r1.at 3).b (geI (p0.at 4).i least) (leI (p0.at 4).i 600) (eqI (p0.at 4).i 0) fun d=>W4 p0 r1 a b c d
def W2 (p0 r1:D) (least:Int) (a b:Bool):Option D:=B (r1.at 2).b (geI (p0.at 3).i 0) (leI (p0.at 3).i 1099511627776) (eqI (p0.at 3).i 0) fun c=>W3 p0 r1 least a b c
def W1 (p0 r1:D) (least:Int) (r2:D) (a:Bool):Option D:=C (r1.at 1).b r2.b (eqS (p0.at 2).s (bs [])) fun b=>W2 p0 r1 least a b
def W0 (p0 r1:D) (least:Int) (r2:D):Option D:=B (r1.at 0).b (geI (p0.at 1).i 1) (leI (p0.at 1).i 1099511627776) (eqI (p0.at 1).i 0) fun a=>W1 p0 r1 least r2 a
def s (M:Nat) (p0:D):Option D:=
 (cond (ltI (p0.at 0).i 0) (some (db false)) (cond (gtI (p0.at 0).i 7) (some (db false)) (bd (F115.s FUEL (p0.at 0).i) fun r1=>(cond (eqI (p0.at 0).i 1) (bd (F169.s FUEL (p0.at 2).s) fun r2=>W0 p0 r1 1 r2) (bd (F169.s FUEL (p0.at 2).s) fun r2=>W0 p0 r1 0 r2)))))
def k0:K:=.struct [28,3,9,3,3,30]
noncomputable def body:Code:=match Tryz.f114.body with | some c=>c | none=>.skip
def sL:Code→Code | .seq a _=>a | c=>c
def sR:Code→Code | .seq _ b=>b | c=>c
def cut:Nat→Code→Code | 0,c=>c | n+1,c=>cut n (sR c)
noncomputable def R (n:Nat):Code:=sL (cut n body)
noncomputable def Q (n:Nat):Code:=cut n body
abbrev P0:V:=.ptr 0 [] k0
abbrev P1:V:=.ptr 1 [] (.array 5 4)
abbrev vB (b:Bool):V:=.d .bool (.bool b)
abbrev vN (n:Int):V:=.d (.int .i64) (.int .i64 n)
def H (p0 r1:D):List AObj:=[.var k0 (.d k0 p0),.var (.array 5 4) (.d (.array 5 4) r1)]
noncomputable def kf (M:Nat):Kont:=fun x regs H'=>match x with | .exit _=>none | _=>match resVals (e M) regs H' [.tmp 2] with | some vs=>finish ty [4] (oneOf vs) H' | none=>none
section
variable {M:Nat} {inl:Inl D} {tbl:Nat→Option Sum} (f:Nat→V) (p0 r1:D)
theorem f13 (a b c d:Bool) (x:D):evT false (e M) inl 114 tbl (Q 11) (SL 131 f [(6,vB a),(7,vB b),(8,vB c),(9,vB d),(10,.d .bool x)]) (H p0 r1) (kf M)=E a b c d x:=by kernel_rfl
theorem l12 (G:AExit→Nat→List V→List AObj→Option D) (a b c d:Bool):evT false (e M) noInl 114 tbl (R 10) (SL 131 f [(1,P0),(3,P1),(6,vB a),(7,vB b),(8,vB c),(9,vB d)]) (H p0 r1) (fun x r h=>G x r.length ([6,7,8,9,10].map fun i=>r.getD i .undef) h) =
 (cond (r1.at 4).b (G .normal 131 [vB a,vB b,vB c,vB d,.d .bool (db true)] (H p0 r1)) (bd (match D.eqv ty eqDepth (p0.at 5) (da (rp 32 (D.int .u8 0))) (.array 32 5) with | some z=>some (.bool z) | none=>none) fun r3=>G .normal 131 [vB a,vB b,vB c,vB d,.d .bool r3] (H p0 r1))):=by kernel_rfl
theorem l11 (G:AExit→Nat→List V→List AObj→Option D) (n:Int) (a b c:Bool):evT false (e M) noInl 114 tbl (R 9) (SL 131 f [(1,P0),(3,P1),(4,vN n),(6,vB a),(7,vB b),(8,vB c)]) (H p0 r1) (fun x r h=>G x r.length ([1,3,6,7,8,9].map fun i=>r.getD i .undef) h) =
 B (r1.at 3).b (geI (p0.at 4).i n) (leI (p0.at 4).i 600) (eqI (p0.at 4).i 0) fun d=>G .normal 131 [P0,P1,vB a,vB b,vB c,vB d] (H p0 r1):=by kernel_rfl
theorem l10 (G:AExit→Nat→List V→List AObj→Option D) (n:Int) (a b:Bool):evT false (e M) noInl 114 tbl (R 8) (SL 131 f [(1,P0),(3,P1),(4,vN n),(6,vB a),(7,vB b)]) (H p0 r1) (fun x r h=>G x r.length ([1,3,4,6,7,8].map fun i=>r.getD i .undef) h) =
 B (r1.at 2).b (geI (p0.at 3).i 0) (leI (p0.at 3).i 1099511627776) (eqI (p0.at 3).i 0) fun c=>G .normal 131 [P0,P1,vN n,vB a,vB b,vB c] (H p0 r1):=by kernel_rfl
theorem l9 (G:AExit→Nat→List V→List AObj→Option D) (n:Int) (r2:D) (a:Bool):evT false (e M) noInl 114 tbl (R 7) (SL 131 f [(1,P0),(3,P1),(4,vN n),(5,.d .bool r2),(6,vB a)]) (H p0 r1) (fun x r h=>G x r.length ([1,3,4,6,7].map fun i=>r.getD i .undef) h) =
 C (r1.at 1).b r2.b (eqS (p0.at 2).s (bs [])) fun b=>G .normal 131 [P0,P1,vN n,vB a,vB b] (H p0 r1):=by kernel_rfl
theorem l8 (G:AExit→Nat→List V→List AObj→Option D) (n:Int) (r2:D):evT false (e M) noInl 114 tbl (R 6) (SL 131 f [(1,P0),(3,P1),(4,vN n),(5,.d .bool r2)]) (H p0 r1) (fun x r h=>G x r.length ([1,3,4,5,6].map fun i=>r.getD i .undef) h) =
 B (r1.at 0).b (geI (p0.at 1).i 1) (leI (p0.at 1).i 1099511627776) (eqI (p0.at 1).i 0) fun a=>G .normal 131 [P0,P1,vN n,.d .bool r2,vB a] (H p0 r1):=by kernel_rfl
noncomputable def top:Code:=.seq (.seq (.seq (.seq (.seq (R 0) (R 1)) (R 2)) (R 3)) (R 4)) (R 5)
theorem lt (G:AExit→Nat→List V→List AObj→Option D):evT false (e M) noInl 114 tbl top ([.d k0 p0]++List.replicate 130 .undef) [] (fun x r h=>G x r.length ([2,1,3,4,5].map fun i=>r.getD i .undef) h) =
 (cond (ltI (p0.at 0).i 0) (G .ret 131 [vB false,P0,.undef,.undef,.undef] [.var k0 (.d k0 p0)]) (cond (gtI (p0.at 0).i 7) (G .ret 131 [vB false,P0,.undef,.undef,.undef] [.var k0 (.d k0 p0)]) (bd (F115.s FUEL (p0.at 0).i) fun r1=>(cond (eqI (p0.at 0).i 1) (bd (F169.s FUEL (p0.at 2).s) fun r2=>G .normal 131 [vB false,P0,P1,vN 1,.d .bool r2] (H p0 r1)) (bd (F169.s FUEL (p0.at 2).s) fun r2=>G .normal 131 [vB false,P0,P1,vN 0,.d .bool r2] (H p0 r1)))))):=by kernel_rfl
theorem f12 (a b c d:Bool):Le (W4 p0 r1 a b c d) (evT false (e M) inl 114 tbl (Q 10) (SL 131 f [(1,P0),(3,P1),(6,vB a),(7,vB b),(8,vB c),(9,vB d)]) (H p0 r1) (kf M)):=by
 have hg:∀x,gate 131 (fun x:D=>[vB a,vB b,vB c,vB d,.d .bool x]) (fun _=>H p0 r1) (fun x=>E a b c d x) .normal 131 [vB a,vB b,vB c,vB d,.d .bool x] (H p0 r1)=E a b c d x:=fun x=>gate_eq (by intro x y h;simpa using h) x
 refine stage (A:=R 10) (C:=Q 11) (by kernel_rfl) ((l12 f p0 r1 (gate 131 (fun x:D=>[vB a,vB b,vB c,vB d,.d .bool x]) (fun _=>H p0 r1) (fun x=>E a b c d x)) a b c d).trans (by simp only[hg];rfl)) ?_
 intro x r h
 refine gate_le ?_
 rintro y rfl hn hL rfl
 simp only[List.map_cons,List.map_nil,List.cons.injEq,and_true] at hL
 obtain⟨h1,h2,h3,h4,h5⟩:=hL
 rw[SL_of hn (l:=[(6,vB a),(7,vB b),(8,vB c),(9,vB d),(10,.d .bool y)]) (allCons h1 (allCons h2 (allCons h3 (allCons h4 (allCons h5 (allNil))))))]
 intro z hz
 exact(f13 _ p0 r1 a b c d y).trans hz
theorem f11 (n:Int) (a b c:Bool):Le (W3 p0 r1 n a b c) (evT false (e M) inl 114 tbl (Q 9) (SL 131 f [(1,P0),(3,P1),(4,vN n),(6,vB a),(7,vB b),(8,vB c)]) (H p0 r1) (kf M)):=by
 have hg:∀x,gate 131 (fun x:Bool=>[P0,P1,vB a,vB b,vB c,vB x]) (fun _=>H p0 r1) (fun x=>W4 p0 r1 a b c x) .normal 131 [P0,P1,vB a,vB b,vB c,vB x] (H p0 r1)=W4 p0 r1 a b c x:=fun x=>gate_eq (by intro x y h;simpa using h) x
 refine stage (A:=R 9) (C:=Q 10) (by kernel_rfl) ((l11 f p0 r1 (gate 131 (fun x:Bool=>[P0,P1,vB a,vB b,vB c,vB x]) (fun _=>H p0 r1) (fun x=>W4 p0 r1 a b c x)) n a b c).trans (by simp only[hg];rfl)) ?_
 intro x r h
 refine gate_le ?_
 rintro y rfl hn hL rfl
 simp only[List.map_cons,List.map_nil,List.cons.injEq,and_true] at hL
 obtain⟨h1,h2,h3,h4,h5,h6⟩:=hL
 rw[SL_of hn (l:=[(1,P0),(3,P1),(6,vB a),(7,vB b),(8,vB c),(9,vB y)]) (allCons h1 (allCons h2 (allCons h3 (allCons h4 (allCons h5 (allCons h6 (allNil)))))))]
 exact f12 _ p0 r1 a b c y
theorem f10 (n:Int) (a b:Bool):Le (W2 p0 r1 n a b) (evT false (e M) inl 114 tbl (Q 8) (SL 131 f [(1,P0),(3,P1),(4,vN n),(6,vB a),(7,vB b)]) (H p0 r1) (kf M)):=by
 have hg:∀x,gate 131 (fun x:Bool=>[P0,P1,vN n,vB a,vB b,vB x]) (fun _=>H p0 r1) (fun x=>W3 p0 r1 n a b x) .normal 131 [P0,P1,vN n,vB a,vB b,vB x] (H p0 r1)=W3 p0 r1 n a b x:=fun x=>gate_eq (by intro x y h;simpa using h) x
 refine stage (A:=R 8) (C:=Q 9) (by kernel_rfl) ((l10 f p0 r1 (gate 131 (fun x:Bool=>[P0,P1,vN n,vB a,vB b,vB x]) (fun _=>H p0 r1) (fun x=>W3 p0 r1 n a b x)) n a b).trans (by simp only[hg];rfl)) ?_
 intro x r h
 refine gate_le ?_
 rintro y rfl hn hL rfl
 simp only[List.map_cons,List.map_nil,List.cons.injEq,and_true] at hL
 obtain⟨h1,h2,h3,h4,h5,h6⟩:=hL
 rw[SL_of hn (l:=[(1,P0),(3,P1),(4,vN n),(6,vB a),(7,vB b),(8,vB y)]) (allCons h1 (allCons h2 (allCons h3 (allCons h4 (allCons h5 (allCons h6 (allNil)))))))]
 exact f11 _ p0 r1 n a b y
theorem f9 (n:Int) (r2:D) (a:Bool):Le (W1 p0 r1 n r2 a) (evT false (e M) inl 114 tbl (Q 7) (SL 131 f [(1,P0),(3,P1),(4,vN n),(5,.d .bool r2),(6,vB a)]) (H p0 r1) (kf M)):=by
 have hg:∀x,gate 131 (fun x:Bool=>[P0,P1,vN n,vB a,vB x]) (fun _=>H p0 r1) (fun x=>W2 p0 r1 n a x) .normal 131 [P0,P1,vN n,vB a,vB x] (H p0 r1)=W2 p0 r1 n a x:=fun x=>gate_eq (by intro x y h;simpa using h) x
 refine stage (A:=R 7) (C:=Q 8) (by kernel_rfl) ((l9 f p0 r1 (gate 131 (fun x:Bool=>[P0,P1,vN n,vB a,vB x]) (fun _=>H p0 r1) (fun x=>W2 p0 r1 n a x)) n r2 a).trans (by simp only[hg];rfl)) ?_
 intro x r h
 refine gate_le ?_
 rintro y rfl hn hL rfl
 simp only[List.map_cons,List.map_nil,List.cons.injEq,and_true] at hL
 obtain⟨h1,h2,h3,h4,h5⟩:=hL
 rw[SL_of hn (l:=[(1,P0),(3,P1),(4,vN n),(6,vB a),(7,vB y)]) (allCons h1 (allCons h2 (allCons h3 (allCons h4 (allCons h5 (allNil))))))]
 exact f10 _ p0 r1 n a y
theorem f8 (n:Int) (r2:D):Le (W0 p0 r1 n r2) (evT false (e M) inl 114 tbl (Q 6) (SL 131 f [(1,P0),(3,P1),(4,vN n),(5,.d .bool r2)]) (H p0 r1) (kf M)):=by
 have hg:∀x,gate 131 (fun x:Bool=>[P0,P1,vN n,.d .bool r2,vB x]) (fun _=>H p0 r1) (fun x=>W1 p0 r1 n r2 x) .normal 131 [P0,P1,vN n,.d .bool r2,vB x] (H p0 r1)=W1 p0 r1 n r2 x:=fun x=>gate_eq (by intro x y h;simpa using h) x
 refine stage (A:=R 6) (C:=Q 7) (by kernel_rfl) ((l8 f p0 r1 (gate 131 (fun x:Bool=>[P0,P1,vN n,.d .bool r2,vB x]) (fun _=>H p0 r1) (fun x=>W1 p0 r1 n r2 x)) n r2).trans (by simp only[hg];rfl)) ?_
 intro x r h
 refine gate_le ?_
 rintro y rfl hn hL rfl
 simp only[List.map_cons,List.map_nil,List.cons.injEq,and_true] at hL
 obtain⟨h1,h2,h3,h4,h5⟩:=hL
 rw[SL_of hn (l:=[(1,P0),(3,P1),(4,vN n),(5,.d .bool r2),(6,vB y)]) (allCons h1 (allCons h2 (allCons h3 (allCons h4 (allCons h5 (allNil))))))]
 exact f9 _ p0 r1 n r2 y
noncomputable def gn (x:AExit) (m:Nat) (L:List V) (h:List AObj):Option D:=gate 131 (fun a:D×Int×D=>[vB false,P0,P1,vN a.2.1,.d .bool a.2.2]) (fun a=>H p0 a.1) (fun a=>W0 p0 a.1 a.2.1 a.2.2) x m L h
open Classical in
noncomputable def gt (x:AExit) (m:Nat) (L:List V) (h:List AObj):Option D:=match x with
 | .ret=>if L.head? = some (vB false) then some (db false) else none
 | x=>gn p0 x m L h
open Classical in
theorem all:Le (s M p0) (evT false (e M) inl 114 tbl body ([.d k0 p0]++List.replicate 130 .undef) [] (kf M)):=by
 have hb:body = .seq (R 0) (.seq (R 1) (.seq (R 2) (.seq (R 3) (.seq (R 4) (.seq (R 5) (Q 6)))))):=by kernel_rfl
 rw[hb,evT_assoc,evT_assoc,evT_assoc,evT_assoc,evT_assoc]
 have hg:∀r1 n r2,gt p0 .normal 131 [vB false,P0,P1,vN n,.d .bool r2] (H p0 r1)=W0 p0 r1 n r2:=by
  intro r1 n r2
  refine(gate_eq (n:=131) (T:=fun a:D×Int×D=>W0 p0 a.1 a.2.1 a.2.2) (Lv:=fun a:D×Int×D=>[vB false,P0,P1,vN a.2.1,.d .bool a.2.2]) (Hv:=fun a=>H p0 a.1) ?_ (r1,n,r2))
  rintro⟨x1,x2,x3⟩ ⟨y1,y2,y3⟩ h1 h2
  simp[H] at h1 h2 ⊢
  exact⟨h2,h1⟩
 have hr:gt p0 .ret 131 [vB false,P0,.undef,.undef,.undef] [.var k0 (.d k0 p0)]=some (db false):=by
  exact if_pos rfl
 refine stage (A:=top) (C:=Q 6) (by kernel_rfl) ((lt p0 (gt p0)).trans (by simp only[hg,hr];rfl)) ?_
 intro x r h
 cases x with
 | ret=>
  show Le (if (List.map (fun i=>r.getD i V.undef) [2,1,3,4,5]).head? = some (vB false) then some (db false) else none) (kf M .ret r h)
  by_cases hL:(List.map (fun i=>r.getD i V.undef) [2,1,3,4,5]).head? = some (vB false)
  ·rw[if_pos hL]
   simp only[List.map_cons,List.head?_cons,Option.some.injEq] at hL
   intro z hz
   rw[←hz]
   simp only[kf,resVals,hL,oneOf]
   rfl
  ·rw[if_neg hL];exact Le.none
 | exit id=>
  show Le (gn p0 (.exit id) _ _ _) _
  unfold gn
  exact gate_le (fun a h=>by simp at h)
 | normal=>
  show Le (gn p0 .normal _ _ _) _
  unfold gn
  refine gate_le ?_
  rintro⟨r1,n,r2⟩ _ hn hL rfl
  simp only[List.map_cons,List.map_nil,List.cons.injEq,and_true] at hL
  obtain⟨h1,h2,h3,h4,h5⟩:=hL
  rw[SL_of hn (l:=[(1,P0),(3,P1),(4,vN n),(5,.d .bool r2)]) (allCons h2 (allCons h3 (allCons h4 (allCons h5 (allNil)))))]
  exact f8 _ p0 r1 n r2
end
theorem call_eq (M:Nat) (p0:D):callS (e M) (tblOf []) 12 (.fn 114) [.d (.struct [28,3,9,3,3,30]) p0] [] (fun v H=>finish ty [4] v H)=evT false (e M) (callS (e M) (tblOf []) 11) 114 (tblOf [] 114 11 0) body ([.d k0 p0]++List.replicate 130 .undef) [] (kf M):=by kernel_rfl
def c:Con:={ run:=fun ds=>match ds with | [p0]=>s FUEL p0 | _=>none,plain:=true }
theorem ok:ConOk (114,c):=by
 intro fn' hfn
 obtain rfl:Tryz.f114=fn':=Option.some.inj ((by kernel_rfl:Tryz.prog.funcs[114]? = some Tryz.f114).symm.trans hfn)
 refine contract_flat (n:=20) hgl (fun _=>by kernel_rfl) (fun ds r hh hr=>?_)
 rw[show Tryz.f114.params.toList.map ty=[.struct [28,3,9,3,3,30]] by kernel_rfl] at hh
 obtain⟨p0,_,rfl,_,hh⟩:=hass_cons hh
 obtain rfl:=hass_nil hh
 exact⟨e FUEL,12,tblOf [],envOk (allCons F115.ok (allCons F169.ok allNil)) allNil,rfl,rfl,AllOk.nil,(call_eq FUEL p0).trans (all p0 r hr)⟩
end F114
namespace F171
def cons:List (Nat×Con):=[]
def exts:List (Nat×Ext):=[]
def h:List (Nat×Nat×Hint):=[(171,3,{ live:=[1,3,4],rows:=[(3,5)],out:=some [3] })]
noncomputable def e (M:Nat):Env:=env cons exts h M
structure S3 where
 (n1 n2:Nat) (i3:Int) (d4:D) (b5:Bool) (l6:List D)
inductive X3 where
 | e0 (n1 n2:Nat) (d4:D) (b5:Bool) (l6:List D)
def st3 (M:Nat):S3→(S3→Option D)→(X3→Option D)→Option D
 | ⟨n1,n2,i3,d4,b5,l6⟩,rec,K=>(cond (ltI i3 32) (cond (inb i3 32) (cond (mx (n2+1)) (rec ⟨0,(n2+1),(ad .i64 i3 1),d4,(b5||true),(ap ((l6.drop n1).take n2) [(d4.at i3.toNat)])⟩) none) none) (K (.e0 n1 n2 d4 b5 l6)))
def ex3 (k:Kont):X3→Option D
 | .e0 n1 n2 d4 b5 l6=>k (.exit 0) ((us 3 ((.sref 1 n1 n2)::(us 13 [])))) [(.var (.array 32 5) (vk (.array 32 5) d4)),(.row 5 true b5 l6)]
def lv3:S3→List Leaf
 | ⟨n1,n2,i3,d4,b5,l6⟩=>[.n n1,.n n2,.i i3,.d d4,.b b5,.l l6]
def of3:List Leaf→Option S3
 | [.n n1,.n n2,.i i3,.d d4,.b b5,.l l6]=>some ⟨n1,n2,i3,d4,b5,l6⟩
 | _=>none
def ps3:List PV:=((up 1 ((.ptr 0 [] (.array 32 5))::(up 1 ((.sref 1)::(.d (.int .i64) (.int .i64))::(up 12 []))))))
def qs3:List PO:=[(.var (.array 32 5) (.d (.array 32 5) .x)),(.row 5 true)]
noncomputable def t (M:Nat):List Ent:=⟨171,11,0,3,sumS [1,3,4] ps3 qs3 [(3,1)] of3 (st3 M) ex3 M⟩::[]
theorem t_ok (M:Nat):AllOk (e M) (tblOf (t M)):=AllOk.addS (n0:=2) (lv:=lv3) AllOk.nil (by kernel_rfl) rfl (by intro ls s h;unfold of3 at h;(repeat' split at h)<;>simp at h;subst h;rfl) (by intro s;kernel_rfl) (by intro s;kernel_rfl) (by intro s nx k;kernel_rfl)
def s (M:Nat) (p0:D):Option D:=
 (goS (st3 M) M ⟨0,0,0,p0,false,[]⟩ fun x=>match x with | .e0 n1 n2 d4 b5 l6=>(some (dS (ofBytes ((l6.drop n1).take n2)))))
theorem run (M:Nat) (p0:D):callS (e M) (tblOf (t M)) 12 (.fn 171) [.d (.array 32 5) p0] [] (fun v H=>finish ty [9] v H)=s M p0:=by kernel_rfl
def c:Con:={ run:=fun ds=>match ds with | [p0]=>s FUEL p0 | _=>none,plain:=true }
theorem ok:ConOk (171,c):=mkC Tryz.f171 [(.array 32 5)] [9] (by kernel_rfl) (by kernel_rfl) (by kernel_rfl) (by kernel_rfl) allNil allNil (t_ok FUEL) fun a=>run FUEL a.1
end F171
namespace F116
def cons:List (Nat×Con):=[(171,F171.c)]
def exts:List (Nat×Ext):=[]
def h:List (Nat×Nat×Hint):=[]
noncomputable def e (M:Nat):Env:=env cons exts h M
def s (M:Nat) (p0:D):Option D:=
 (bd (F171.s FUEL p0) fun r1=>(some r1))
theorem run (M:Nat) (p0:D):callS (e M) (tblOf []) 12 (.fn 116) [.d (.array 32 5) p0] [] (fun v H=>finish ty [9] v H)=s M p0:=by kernel_rfl
def c:Con:={ run:=fun ds=>match ds with | [p0]=>s FUEL p0 | _=>none,plain:=true }
theorem ok:ConOk (116,c):=mkC Tryz.f116 [(.array 32 5)] [9] (by kernel_rfl) (by kernel_rfl) (by kernel_rfl) (by kernel_rfl) (allCons F171.ok allNil) allNil AllOk.nil fun a=>run FUEL a.1
end F116
namespace F67
def cons:List (Nat×Con):=[(64,F64.c),(65,F65.c),(114,F114.c),(115,F115.c),(116,F116.c)]
def exts:List (Nat×Ext):=[]
def h:List (Nat×Nat×Hint):=[]
noncomputable def e (M:Nat):Env:=env cons exts h M
def s (M:Nat) (p0:D):Option D:=
 (bd (F114.s FUEL p0) fun r1=>(cond (!r1.b) (some (D.tup [(dS (bs [])),(db false)])) (bd (F115.s FUEL (p0.at 0).i) fun r2=>(bd (F64.s FUEL (p0.at 0).i) fun r3=>(cond (r2.at 0).b (bd (F64.s FUEL (p0.at 1).i) fun r4=>(bd (cat r3.s r4.s) fun r5=>(cond (r2.at 1).b (bd (F65.s FUEL (p0.at 2).s) fun r6=>(bd (cat r5.s r6.s) fun r7=>(cond (r2.at 2).b (bd (F64.s FUEL (p0.at 3).i) fun r8=>(bd (cat r7.s r8.s) fun r9=>(cond (r2.at 3).b (bd (F64.s FUEL (p0.at 4).i) fun r10=>(bd (cat r9.s r10.s) fun r11=>(cond (r2.at 4).b (bd (F116.s FUEL (p0.at 5)) fun r12=>(bd (cat r11.s r12.s) fun r13=>(some (D.tup [r13,(db true)])))) (some (D.tup [r11,(db true)]))))) (cond (r2.at 4).b (bd (F116.s FUEL (p0.at 5)) fun r14=>(bd (cat r9.s r14.s) fun r15=>(some (D.tup [r15,(db true)])))) (some (D.tup [r9,(db true)])))))) (cond (r2.at 3).b (bd (F64.s FUEL (p0.at 4).i) fun r16=>(bd (cat r7.s r16.s) fun r17=>(cond (r2.at 4).b (bd (F116.s FUEL (p0.at 5)) fun r18=>(bd (cat r17.s r18.s) fun r19=>(some (D.tup [r19,(db true)])))) (some (D.tup [r17,(db true)]))))) (cond (r2.at 4).b (bd (F116.s FUEL (p0.at 5)) fun r20=>(bd (cat r7.s r20.s) fun r21=>(some (D.tup [r21,(db true)])))) (some (D.tup [r7,(db true)]))))))) (cond (r2.at 2).b (bd (F64.s FUEL (p0.at 3).i) fun r22=>(bd (cat r5.s r22.s) fun r23=>(cond (r2.at 3).b (bd (F64.s FUEL (p0.at 4).i) fun r24=>(bd (cat r23.s r24.s) fun r25=>(cond (r2.at 4).b (bd (F116.s FUEL (p0.at 5)) fun r26=>(bd (cat r25.s r26.s) fun r27=>(some (D.tup [r27,(db true)])))) (some (D.tup [r25,(db true)]))))) (cond (r2.at 4).b (bd (F116.s FUEL (p0.at 5)) fun r28=>(bd (cat r23.s r28.s) fun r29=>(some (D.tup [r29,(db true)])))) (some (D.tup [r23,(db true)])))))) (cond (r2.at 3).b (bd (F64.s FUEL (p0.at 4).i) fun r30=>(bd (cat r5.s r30.s) fun r31=>(cond (r2.at 4).b (bd (F116.s FUEL (p0.at 5)) fun r32=>(bd (cat r31.s r32.s) fun r33=>(some (D.tup [r33,(db true)])))) (some (D.tup [r31,(db true)]))))) (cond (r2.at 4).b (bd (F116.s FUEL (p0.at 5)) fun r34=>(bd (cat r5.s r34.s) fun r35=>(some (D.tup [r35,(db true)])))) (some (D.tup [r5,(db true)])))))))) (cond (r2.at 1).b (bd (F65.s FUEL (p0.at 2).s) fun r36=>(bd (cat r3.s r36.s) fun r37=>(cond (r2.at 2).b (bd (F64.s FUEL (p0.at 3).i) fun r38=>(bd (cat r37.s r38.s) fun r39=>(cond (r2.at 3).b (bd (F64.s FUEL (p0.at 4).i) fun r40=>(bd (cat r39.s r40.s) fun r41=>(cond (r2.at 4).b (bd (F116.s FUEL (p0.at 5)) fun r42=>(bd (cat r41.s r42.s) fun r43=>(some (D.tup [r43,(db true)])))) (some (D.tup [r41,(db true)]))))) (cond (r2.at 4).b (bd (F116.s FUEL (p0.at 5)) fun r44=>(bd (cat r39.s r44.s) fun r45=>(some (D.tup [r45,(db true)])))) (some (D.tup [r39,(db true)])))))) (cond (r2.at 3).b (bd (F64.s FUEL (p0.at 4).i) fun r46=>(bd (cat r37.s r46.s) fun r47=>(cond (r2.at 4).b (bd (F116.s FUEL (p0.at 5)) fun r48=>(bd (cat r47.s r48.s) fun r49=>(some (D.tup [r49,(db true)])))) (some (D.tup [r47,(db true)]))))) (cond (r2.at 4).b (bd (F116.s FUEL (p0.at 5)) fun r50=>(bd (cat r37.s r50.s) fun r51=>(some (D.tup [r51,(db true)])))) (some (D.tup [r37,(db true)]))))))) (cond (r2.at 2).b (bd (F64.s FUEL (p0.at 3).i) fun r52=>(bd (cat r3.s r52.s) fun r53=>(cond (r2.at 3).b (bd (F64.s FUEL (p0.at 4).i) fun r54=>(bd (cat r53.s r54.s) fun r55=>(cond (r2.at 4).b (bd (F116.s FUEL (p0.at 5)) fun r56=>(bd (cat r55.s r56.s) fun r57=>(some (D.tup [r57,(db true)])))) (some (D.tup [r55,(db true)]))))) (cond (r2.at 4).b (bd (F116.s FUEL (p0.at 5)) fun r58=>(bd (cat r53.s r58.s) fun r59=>(some (D.tup [r59,(db true)])))) (some (D.tup [r53,(db true)])))))) (cond (r2.at 3).b (bd (F64.s FUEL (p0.at 4).i) fun r60=>(bd (cat r3.s r60.s) fun r61=>(cond (r2.at 4).b (bd (F116.s FUEL (p0.at 5)) fun r62=>(bd (cat r61.s r62.s) fun r63=>(some (D.tup [r63,(db true)])))) (some (D.tup [r61,(db true)]))))) (cond (r2.at 4).b (bd (F116.s FUEL (p0.at 5)) fun r64=>(bd (cat r3.s r64.s) fun r65=>(some (D.tup [r65,(db true)])))) (some (D.tup [r3,(db true)])))))))))))
theorem run (M:Nat) (p0:D):callS (e M) (tblOf []) 12 (.fn 67) [.d (.struct [28,3,9,3,3,30]) p0] [] (fun v H=>finish ty [9,4] v H)=s M p0:=by kernel_rfl
def c:Con:={ run:=fun ds=>match ds with | [p0]=>s FUEL p0 | _=>none,plain:=true }
theorem ok:ConOk (67,c):=mkC Tryz.f67 [(.struct [28,3,9,3,3,30])] [9,4] (by kernel_rfl) (by kernel_rfl) (by kernel_rfl) (by kernel_rfl) (allCons F64.ok (allCons F65.ok (allCons F114.ok (allCons F115.ok (allCons F116.ok allNil))))) allNil AllOk.nil fun a=>run FUEL a.1
end F67
namespace F18
def k0_:K:=(.struct [22,3,3])
def k1_:K:=(.struct [3,9,9,4,3,66])
def cons:List (Nat×Con):=[(63,F63.c),(64,F64.c),(65,F65.c),(66,F66.c),(67,F67.c)]
def exts:List (Nat×Ext):=[]
def h:List (Nat×Nat×Hint):=[(18,6,{ live:=[1,2,3,9,10],out:=some [1,2,3,6,7,9] }),(18,16,{ live:=[1,2,3,9,10,11,13],out:=some [1,2,3,9,10] }),(18,22,{ live:=[1,2,3,14,15,16],out:=some [2,3,6,7,14,15] }),(18,30,{ live:=[2,3,14,19],rows:=[(14,62)],out:=some [14] })]
def q0_:PO:=(.var k0_ (.d k0_ .x))
noncomputable def e (M:Nat):Env:=env cons exts h M
structure S16 where
 (d26:D) (i27:Int) (d28:D) (i29 i30:Int) (d31 d32:D)
inductive X16 where
 | e0 (d26:D) (i27:Int) (d28:D) (i29:Int) (d31 d32:D)
def st16 (M:Nat):S16→(S16→Option D)→(X16→Option D)→Option D
 | ⟨d26,i27,d28,i29,i30,d31,d32⟩,rec,K=>(cond (ltI i30 (nI (d32.at 5).elems.length)) (cond (inb i30 (d32.at 5).elems.length) (bd (F65.s FUEL (ix (d32.at 5).elems i30.toNat).s) fun r33=>(bd (cat d28.s r33.s) fun r34=>(rec ⟨d26,i27,r34,i29,(ad .i64 i30 1),d31,d32⟩))) none) (K (.e0 d26 i27 d28 i29 d31 d32)))
def ex16 (k:Kont):X16→Option D
 | .e0 d26 i27 d28 i29 d31 d32=>k (.exit 2) ((us 1 ((vk (.slice 32) d26)::(vi i27)::(.ptr 0 [] k0_)::(us 5 ((vk .str d28)::(vi i29)::(us 156 [])))))) [(.var k0_ (vk k0_ d31)),(.var k1_ (vk k1_ d32))]
def lv16:S16→List Leaf
 | ⟨d26,i27,d28,i29,i30,d31,d32⟩=>[.d d26,.i i27,.d d28,.i i29,.i i30,.d d31,.d d32]
def of16:List Leaf→Option S16
 | [.d d26,.i i27,.d d28,.i i29,.i i30,.d d31,.d d32]=>some ⟨d26,i27,d28,i29,i30,d31,d32⟩
 | _=>none
def ps16:List PV:=((up 1 ((.d (.slice 32) .x)::(.d (.int .i64) (.int .i64))::(.ptr 0 [] k0_)::(up 5 ((.d .str .x)::(.d (.int .i64) (.int .i64))::(.ptr 1 [] k1_)::(up 1 ((.d (.int .i64) (.int .i64))::(up 153 []))))))))
def qs16:List PO:=[q0_,(.var k1_ (.d k1_ .x))]
noncomputable def t1 (M:Nat):List Ent:=⟨18,11,0,16,sumS [1,2,3,9,10,11,13] ps16 qs16 [] of16 (st16 M) ex16 M⟩::[]
theorem t1_ok (M:Nat):AllOk (e M) (tblOf (t1 M)):=AllOk.addS (n0:=2) (lv:=lv16) AllOk.nil (by kernel_rfl) rfl (by intro ls s h;unfold of16 at h;(repeat' split at h)<;>simp at h;subst h;rfl) (by intro s;kernel_rfl) (by intro s;kernel_rfl) (by intro s nx k;kernel_rfl)
structure S6 where
 (d9:D) (i10:Int) (d11:D) (i12:Int) (d13:D)
inductive X6 where
 | e0 (d9:D) (i10:Int) (d11:D) (i12:Int) (d13:D)
 | e1 (d9:D) (i10:Int) (d11 d13:D)
def st6 (M:Nat):S6→(S6→Option D)→(X6→Option D)→Option D
 | ⟨d9,i10,d11,i12,d13⟩,rec,K=>(cond (ltI i12 (nI (d13.at 0).elems.length)) (cond (inb i12 (d13.at 0).elems.length) (cond (gtI ((ix (d13.at 0).elems i12.toNat).at 0).i 134217728) (K (.e0 d9 i10 d11 i12 d13)) (cond ((ix (d13.at 0).elems i12.toNat).at 3).b (bd (F64.s FUEL ((ix (d13.at 0).elems i12.toNat).at 0).i) fun r14=>(bd (cat d11.s r14.s) fun r15=>(bd (F65.s FUEL ((ix (d13.at 0).elems i12.toNat).at 1).s) fun r16=>(bd (cat r15.s r16.s) fun r17=>(bd (F64.s FUEL 1) fun r18=>(bd (cat r17.s r18.s) fun r19=>(bd (F64.s FUEL ((ix (d13.at 0).elems i12.toNat).at 4).i) fun r20=>(bd (cat r19.s r20.s) fun r21=>(bd (F64.s FUEL (nI ((ix (d13.at 0).elems i12.toNat).at 2).s.size)) fun r22=>(bd (cat r21.s r22.s) fun r23=>(bd (F64.s FUEL (nI ((ix (d13.at 0).elems i12.toNat).at 5).elems.length)) fun r24=>(bd (cat r23.s r24.s) fun r25=>(goS (st16 M) M ⟨d9,i10,r25,i12,0,d13,(ix (d13.at 0).elems i12.toNat)⟩ fun x=>match x with | .e0 d26 i27 d28 i29 d31 d32=>(rec ⟨d26,i27,d28,(ad .i64 i29 1),d31⟩)))))))))))))) (bd (F64.s FUEL ((ix (d13.at 0).elems i12.toNat).at 0).i) fun r35=>(bd (cat d11.s r35.s) fun r36=>(bd (F65.s FUEL ((ix (d13.at 0).elems i12.toNat).at 1).s) fun r37=>(bd (cat r36.s r37.s) fun r38=>(bd (F64.s FUEL 0) fun r39=>(bd (cat r38.s r39.s) fun r40=>(bd (F64.s FUEL ((ix (d13.at 0).elems i12.toNat).at 4).i) fun r41=>(bd (cat r40.s r41.s) fun r42=>(bd (F64.s FUEL (nI ((ix (d13.at 0).elems i12.toNat).at 2).s.size)) fun r43=>(bd (cat r42.s r43.s) fun r44=>(bd (F64.s FUEL (nI ((ix (d13.at 0).elems i12.toNat).at 5).elems.length)) fun r45=>(bd (cat r44.s r45.s) fun r46=>(goS (st16 M) M ⟨d9,i10,r46,i12,0,d13,(ix (d13.at 0).elems i12.toNat)⟩ fun x=>match x with | .e0 d26 i27 d28 i29 d31 d32=>(rec ⟨d26,i27,d28,(ad .i64 i29 1),d31⟩)))))))))))))))) none) (K (.e1 d9 i10 d11 d13)))
def ex6 (k:Kont):X6→Option D
 | .e0 d9 i10 d11 i12 d13=>k .ret ((us 1 ((vk (.slice 32) d9)::(vi i10)::(.ptr 0 [] k0_)::(us 2 ((vk (.slice 62) (dl false []))::(vb false)::(us 1 ((vk .str d11)::(us 157 [])))))))) [(.var k0_ (vk k0_ d13)),(.var k1_ (vk k1_ (ix (d13.at 0).elems i12.toNat)))]
 | .e1 d9 i10 d11 d13=>k (.exit 0) ((us 1 ((vk (.slice 32) d9)::(vi i10)::(.ptr 0 [] k0_)::(us 5 ((vk .str d11)::(us 157 [])))))) [(.var k0_ (vk k0_ d13))]
def lv6:S6→List Leaf
 | ⟨d9,i10,d11,i12,d13⟩=>[.d d9,.i i10,.d d11,.i i12,.d d13]
def of6:List Leaf→Option S6
 | [.d d9,.i i10,.d d11,.i i12,.d d13]=>some ⟨d9,i10,d11,i12,d13⟩
 | _=>none
def ps6:List PV:=((up 1 ((.d (.slice 32) .x)::(.d (.int .i64) (.int .i64))::(.ptr 0 [] k0_)::(up 5 ((.d .str .x)::(.d (.int .i64) (.int .i64))::(up 156 []))))))
def qs6:List PO:=[q0_]
noncomputable def t2 (M:Nat):List Ent:=⟨18,11,0,6,sumS [1,2,3,9,10] ps6 qs6 [] of6 (st6 M) ex6 M⟩::t1 M
theorem t2_ok (M:Nat):AllOk (e M) (tblOf (t2 M)):=AllOk.addS (n0:=1) (lv:=lv6) (t1_ok M) (by kernel_rfl) rfl (by intro ls s h;unfold of6 at h;(repeat' split at h)<;>simp at h;subst h;rfl) (by intro s;kernel_rfl) (by intro s;kernel_rfl) (by intro s nx k;kernel_rfl)
structure S22 where
 (d60:D) (i61:Int) (n62 n63:Nat) (d64:D) (i65:Int) (d66:D) (b67:Bool) (l68:List D)
inductive X22 where
 | e0 (i61:Int) (n62 n63:Nat) (d64 d66:D) (b67:Bool) (l68:List D)
 | e1 (i61:Int) (n62 n63:Nat) (d64 d66:D) (b67:Bool) (l68:List D)
def st22 (M:Nat):S22→(S22→Option D)→(X22→Option D)→Option D
 | ⟨d60,i61,n62,n63,d64,i65,d66,b67,l68⟩,rec,K=>(cond (ltI i65 (nI d60.elems.length)) (cond (inb i65 d60.elems.length) (bd (F67.s FUEL (ix d60.elems i65.toNat)) fun r69=>(cond (!(r69.at 1).b) (K (.e0 i61 n62 n63 d64 d66 b67 l68)) (bd (F65.s FUEL (r69.at 0).s) fun r70=>(bd (cat d64.s r70.s) fun r71=>(rec ⟨d60,i61,n62,n63,r71,(ad .i64 i65 1),d66,b67,l68⟩))))) none) (K (.e1 i61 n62 n63 d64 d66 b67 l68)))
def ex22 (k:Kont):X22→Option D
 | .e0 i61 n62 n63 d64 d66 b67 l68=>k .ret ((us 2 ((vi i61)::(.ptr 0 [] k0_)::(us 2 ((vk (.slice 62) (dl false []))::(vb false)::(us 6 ((.sref 1 n62 n63)::(vk .str d64)::(us 151 [])))))))) [(.var k0_ (vk k0_ d66)),(.row 62 true b67 l68)]
 | .e1 i61 n62 n63 d64 d66 b67 l68=>k (.exit 4) ((us 2 ((vi i61)::(.ptr 0 [] k0_)::(us 10 ((.sref 1 n62 n63)::(vk .str d64)::(us 151 [])))))) [(.var k0_ (vk k0_ d66)),(.row 62 true b67 l68)]
def lv22:S22→List Leaf
 | ⟨d60,i61,n62,n63,d64,i65,d66,b67,l68⟩=>[.d d60,.i i61,.n n62,.n n63,.d d64,.i i65,.d d66,.b b67,.l l68]
def of22:List Leaf→Option S22
 | [.d d60,.i i61,.n n62,.n n63,.d d64,.i i65,.d d66,.b b67,.l l68]=>some ⟨d60,i61,n62,n63,d64,i65,d66,b67,l68⟩
 | _=>none
def ps22:List PV:=((up 1 ((.d (.slice 32) .x)::(.d (.int .i64) (.int .i64))::(.ptr 0 [] k0_)::(up 10 ((.sref 1)::(.d .str .x)::(.d (.int .i64) (.int .i64))::(up 150 []))))))
def qs22:List PO:=[q0_,(.row 62 true)]
noncomputable def t3 (M:Nat):List Ent:=⟨18,11,0,22,sumS [1,2,3,14,15,16] ps22 qs22 [] of22 (st22 M) ex22 M⟩::t2 M
theorem t3_ok (M:Nat):AllOk (e M) (tblOf (t3 M)):=AllOk.addS (n0:=2) (lv:=lv22) (t2_ok M) (by kernel_rfl) rfl (by intro ls s h;unfold of22 at h;(repeat' split at h)<;>simp at h;subst h;rfl) (by intro s;kernel_rfl) (by intro s;kernel_rfl) (by intro s nx k;kernel_rfl)
structure S30 where
 (i73:Int) (n74 n75:Nat) (i76:Int) (d77:D) (b78:Bool) (l79:List D) (b80:Bool) (l81:List D)
inductive X30 where
 | e0 (n74 n75:Nat) (d77:D) (b78:Bool) (l79:List D) (b80:Bool) (l81:List D)
def st30 (M:Nat):S30→(S30→Option D)→(X30→Option D)→Option D
 | ⟨i73,n74,n75,i76,d77,b78,l79,b80,l81⟩,rec,K=>(cond (ltI i76 (nI (d77.at 0).elems.length)) (cond (inb i76 (d77.at 0).elems.length) (bd (F66.s FUEL ((ix (d77.at 0).elems i76.toNat).at 2).s i73 ((ix (d77.at 0).elems i76.toNat).at 0).i (ml .i64 4096 ((ix (d77.at 0).elems i76.toNat).at 0).i)) fun r82=>(cond (mx (n75+((r82.elems.drop 0).take r82.elems.length).length)) (rec ⟨i73,0,(n75+((r82.elems.drop 0).take r82.elems.length).length),(ad .i64 i76 1),d77,b78,l79,(b80||(!((r82.elems.drop 0).take r82.elems.length).isEmpty)),(ap ((l81.drop n74).take n75) ((r82.elems.drop 0).take r82.elems.length))⟩) none)) none) (K (.e0 n74 n75 d77 b78 l79 b80 l81)))
def ex30 (k:Kont):X30→Option D
 | .e0 n74 n75 d77 b78 l79 b80 l81=>k (.exit 6) ((us 14 ((.sref 3 n74 n75)::(us 152 [])))) [(.var k0_ (vk k0_ d77)),.dead,(.row 62 true b78 l79),(.row 62 true b80 l81)]
def lv30:S30→List Leaf
 | ⟨i73,n74,n75,i76,d77,b78,l79,b80,l81⟩=>[.i i73,.n n74,.n n75,.i i76,.d d77,.b b78,.l l79,.b b80,.l l81]
def of30:List Leaf→Option S30
 | [.i i73,.n n74,.n n75,.i i76,.d d77,.b b78,.l l79,.b b80,.l l81]=>some ⟨i73,n74,n75,i76,d77,b78,l79,b80,l81⟩
 | _=>none
def ps30:List PV:=((up 2 ((.d (.int .i64) (.int .i64))::(.ptr 0 [] k0_)::(up 10 ((.sref 3)::(up 4 ((.d (.int .i64) (.int .i64))::(up 147 []))))))))
def qs30:List PO:=[q0_,.dead,(.row 62 true),(.row 62 true)]
noncomputable def t (M:Nat):List Ent:=⟨18,11,0,30,sumS [2,3,14,19] ps30 qs30 [(14,3)] of30 (st30 M) ex30 M⟩::t3 M
theorem t_ok (M:Nat):AllOk (e M) (tblOf (t M)):=AllOk.addS (n0:=4) (lv:=lv30) (t3_ok M) (by kernel_rfl) rfl (by intro ls s h;unfold of30 at h;(repeat' split at h)<;>simp at h;subst h;rfl) (by intro s;kernel_rfl) (by intro s;kernel_rfl) (by intro s nx k;kernel_rfl)
def s (M:Nat) (p0:D) (p1:D) (p2:Int):Option D:=
 (bd (F63.s FUEL p0) fun r1=>(cond (!r1.b) (some (D.tup [(dl false []),(db false)])) (cond (ltI p2 8) (some (D.tup [(dl false []),(db false)])) (cond (gtI p2 224) (some (D.tup [(dl false []),(db false)])) (cond (gtI (nI p1.elems.length) 400) (some (D.tup [(dl false []),(db false)])) (bd (F64.s FUEL (p0.at 1).i) fun r2=>(bd (F64.s FUEL (p0.at 2).i) fun r3=>(bd (cat r2.s r3.s) fun r4=>(bd (F64.s FUEL (nI (p0.at 0).elems.length)) fun r5=>(bd (cat r4.s r5.s) fun r6=>(bd (F64.s FUEL (nI p1.elems.length)) fun r7=>(bd (cat r6.s r7.s) fun r8=>(goS (st6 M) M ⟨p1,p2,r8,0,p0⟩ fun x=>match x with | .e0 d9 i10 d11 i12 d13=>(some (D.tup [(dl false []),(db false)])) | .e1 d9 i10 d11 d13=>(bd (F66.s FUEL d11.s i10 0 0) fun r47=>(goS (st22 M) M ⟨d9,i10,0,r47.elems.length,(dS (bs [])),0,d13,r47.nn,r47.elems⟩ fun x=>match x with | .e0 i61 n62 n63 d64 d66 b67 l68=>(some (D.tup [(dl false []),(db false)])) | .e1 i61 n62 n63 d64 d66 b67 l68=>(bd (F66.s FUEL d64.s i61 0 1000) fun r72=>(cond (mx (n63+((r72.elems.drop 0).take r72.elems.length).length)) (goS (st30 M) M ⟨i61,0,(n63+((r72.elems.drop 0).take r72.elems.length).length),0,d66,r72.nn,r72.elems,(b67||(!((r72.elems.drop 0).take r72.elems.length).isEmpty)),(ap ((l68.drop n62).take n63) ((r72.elems.drop 0).take r72.elems.length))⟩ fun x=>match x with | .e0 n74 n75 d77 b78 l79 b80 l81=>(cond (gtI (nI n75) 400) (some (D.tup [(dl false []),(db false)])) (some (D.tup [(dl b80 ((l81.drop n74).take n75)),(db true)])))) none)))))))))))))))))
theorem run (M:Nat) (p0:D) (p1:D) (p2:Int):callS (e M) (tblOf (t M)) 12 (.fn 18) [.d (.struct [22,3,3]) p0,.d (.slice 32) p1,.d (.int .i64) (di p2)] [] (fun v H=>finish ty [36,4] v H)=s M p0 p1 p2:=by kernel_rfl
def c:Con:={ run:=fun ds=>match ds with | [p0,p1,p2]=>s FUEL p0 p1 p2.i | _=>none }
theorem ok:ConOk (18,c):=mkC Tryz.f18 [(.struct [22,3,3]),(.slice 32),(.int .i64)] [36,4] (by kernel_rfl) (by kernel_rfl) (by kernel_rfl) (by kernel_rfl) (allCons F63.ok (allCons F64.ok (allCons F65.ok (allCons F66.ok (allCons F67.ok allNil))))) allNil (t_ok FUEL) fun a=>run FUEL a.1 a.2.1 a.2.2.1
end F18
namespace F3
def k0_:K:=(.struct [22,3,3])
def cons:List (Nat×Con):=[(15,F15.c),(16,F16.c),(17,F17.c),(18,F18.c),(19,F19.c),(20,F20.c),(21,F21.c)]
def exts:List (Nat×Ext):=[]
def h:List (Nat×Nat×Hint):=[(3,8,{ live:=[1,2,3,7,9],out:=some [1,2,3,6,7] })]
noncomputable def e (M:Nat):Env:=env cons exts h M
structure S8 where
 (d3:D) (i4:Int) (d5:D) (i6:Int) (d7:D)
inductive X8 where
 | e0 (d3:D) (i4:Int) (d5 d7:D)
 | e1 (d3:D) (i4:Int) (d5 d7:D)
def st8 (M:Nat):S8→(S8→Option D)→(X8→Option D)→Option D
 | ⟨d3,i4,d5,i6,d7⟩,rec,K=>(cond (ltI i6 (nI d3.elems.length)) (cond (inb i6 d3.elems.length) (cond (gtI (nI ((ix d3.elems i6.toNat).at 2).s.size) 200) (K (.e0 d3 i4 d5 d7)) (rec ⟨d3,i4,d5,(ad .i64 i6 1),d7⟩)) none) (K (.e1 d3 i4 d5 d7)))
def ex8 (k:Kont):X8→Option D
 | .e0 d3 i4 d5 d7=>k .ret ((us 1 ((vk (.slice 32) d3)::(vi i4)::(.ptr 0 [] k0_)::(us 2 ((vk .bool d5)::(vk .bool d5)::(us 60 [])))))) [(.var k0_ (vk k0_ d7))]
 | .e1 d3 i4 d5 d7=>k (.exit 0) ((us 1 ((vk (.slice 32) d3)::(vi i4)::(.ptr 0 [] k0_)::(us 3 ((vk .bool d5)::(us 60 [])))))) [(.var k0_ (vk k0_ d7))]
def lv8:S8→List Leaf
 | ⟨d3,i4,d5,i6,d7⟩=>[.d d3,.i i4,.d d5,.i i6,.d d7]
def of8:List Leaf→Option S8
 | [.d d3,.i i4,.d d5,.i i6,.d d7]=>some ⟨d3,i4,d5,i6,d7⟩
 | _=>none
def ps8:List PV:=((up 1 ((.d (.slice 32) .x)::(.d (.int .i64) (.int .i64))::(.ptr 0 [] k0_)::(up 3 ((.d .bool .x)::(up 1 ((.d (.int .i64) (.int .i64))::(up 58 []))))))))
def qs8:List PO:=[(.var k0_ (.d k0_ .x))]
noncomputable def t (M:Nat):List Ent:=⟨3,11,0,8,sumS [1,2,3,7,9] ps8 qs8 [] of8 (st8 M) ex8 M⟩::[]
theorem t_ok (M:Nat):AllOk (e M) (tblOf (t M)):=AllOk.addS (n0:=1) (lv:=lv8) AllOk.nil (by kernel_rfl) rfl (by intro ls s h;unfold of8 at h;(repeat' split at h)<;>simp at h;subst h;rfl) (by intro s;kernel_rfl) (by intro s;kernel_rfl) (by intro s nx k;kernel_rfl)
def s (M:Nat) (p0:D) (p1:D) (p2:Int):Option D:=
 (bd (F15.s FUEL) fun r1=>(cond (!r1.b) (some (db false)) (bd (F16.s FUEL p0) fun r2=>(cond (!r2.b) (some r1) (cond (gtI (nI p1.elems.length) 60) (some r1) (goS (st8 M) M ⟨p1,p2,r1,0,p0⟩ fun x=>match x with | .e0 d3 i4 d5 d7=>(some d5) | .e1 d3 i4 d5 d7=>(bd (F17.s FUEL d7 d3 i4) fun r8=>(bd (F19.s FUEL d7) fun r9=>(bd (F18.s FUEL r9 d3 i4) fun r10=>(cond d5.b (bd (match D.eqv ty eqDepth (r8.at 1) (r10.at 1) .bool with | some z=>some (.bool z) | none=>none) fun r11=>(cond r11.b (bd (F21.s FUEL (r8.at 0)) fun r12=>(bd (F20.s FUEL (dl r12.nn ((r12.elems.drop 0).take r12.elems.length)) (r10.at 0)) fun r13=>(some r13))) (some (db false)))) (some (db false))))))))))))
theorem run (M:Nat) (p0:D) (p1:D) (p2:Int):callS (e M) (tblOf (t M)) 12 (.fn 3) [.d (.struct [22,3,3]) p0,.d (.slice 32) p1,.d (.int .i64) (di p2)] [] (fun v H=>finish ty [4] v H)=s M p0 p1 p2:=by kernel_rfl
def c:Con:={ run:=fun ds=>match ds with | [p0,p1,p2]=>s FUEL p0 p1 p2.i | _=>none,plain:=true }
theorem fun_at:Tryz.prog.funcs[3]? = some Tryz.f3:=by kernel_rfl
theorem params:Tryz.f3.params.toList.map ty=[(.struct [22,3,3]),(.slice 32),(.int .i64)]:=by kernel_rfl
theorem ok:ConOk (3,c):=mkC Tryz.f3 [(.struct [22,3,3]),(.slice 32),(.int .i64)] [4] (by kernel_rfl) (by kernel_rfl) (by kernel_rfl) (by kernel_rfl) (allCons F15.ok (allCons F16.ok (allCons F17.ok (allCons F18.ok (allCons F19.ok (allCons F20.ok (allCons F21.ok allNil))))))) allNil (t_ok FUEL) fun a=>run FUEL a.1 a.2.1 a.2.2.1
end F3
end Go.AM.SY
