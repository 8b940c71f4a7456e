/- Part 8 of the proof: the abstract machine, what the functions compute, and plain laws over that. -/
import Derived.Test.YtmbnifmpbafcjaaGreatDoorIp7
set_option linter.all false
set_option linter.unusedSimpArgs false
set_option linter.unusedVariables false
set_option linter.unusedSectionVars false
namespace Go.AM.SY
open Go Go.AM Go.Proofs Go.RowKit
def FUEL:Nat:=18446744073709551616
namespace F52
def cons:List (Nat×Con):=[]
def exts:List (Nat×Ext):=[]
def h:List (Nat×Nat×Hint):=[]
noncomputable def e (M:Nat):Env:=env cons exts h M
def s (M:Nat) (p0:D):Option D:=
 (some (db (gtI (p0.at 0).i 134217728)))
theorem run (M:Nat) (p0:D):callS (e M) (tblOf []) 12 (.fn 52) [.d (.struct [3,9,9,4,3,66]) p0] [] (fun v H=>finish ty [4] v H)=s M p0:=by kernel_rfl
def c:Con:={ run:=fun ds=>match ds with | [p0]=>s FUEL p0 | _=>none,plain:=true }
theorem ok:ConOk (52,c):=mkC Tryz.f52 [(.struct [3,9,9,4,3,66])] [4] (by kernel_rfl) (by kernel_rfl) (by kernel_rfl) (by kernel_rfl) allNil allNil AllOk.nil fun a=>run FUEL a.1
end F52
namespace F105
def cons:List (Nat×Con):=[]
def exts:List (Nat×Ext):=[]
def h:List (Nat×Nat×Hint):=[]
noncomputable def e (M:Nat):Env:=env cons exts h M
def s (M:Nat) (p0:Int) (p1:Int):Option D:=
 (cond (geI p0 0) (some (db (leI p0 p1))) (some (db false)))
theorem run (M:Nat) (p0:Int) (p1:Int):callS (e M) (tblOf []) 12 (.fn 105) [.d (.int .i64) (di p0),.d (.int .i64) (di p1)] [] (fun v H=>finish ty [4] v H)=s M p0 p1:=by kernel_rfl
def c:Con:={ run:=fun ds=>match ds with | [p0,p1]=>s FUEL p0.i p1.i | _=>none,plain:=true }
theorem ok:ConOk (105,c):=mkC Tryz.f105 [(.int .i64),(.int .i64)] [4] (by kernel_rfl) (by kernel_rfl) (by kernel_rfl) (by kernel_rfl) allNil allNil AllOk.nil fun a=>run FUEL a.1 a.2.1
end F105
namespace F163
def cons:List (Nat×Con):=[]
def exts:List (Nat×Ext):=[]
def h:List (Nat×Nat×Hint):=[]
noncomputable def e (M:Nat):Env:=env cons exts h M
def s (M:Nat) (p0:Int):Option D:=
 (cond (geI p0 1) (some (db (leI p0 1099511627776))) (some (db false)))
theorem run (M:Nat) (p0:Int):callS (e M) (tblOf []) 12 (.fn 163) [.d (.int .i64) (di p0)] [] (fun v H=>finish ty [4] v H)=s M p0:=by kernel_rfl
def c:Con:={ run:=fun ds=>match ds with | [p0]=>s FUEL p0.i | _=>none,plain:=true }
theorem ok:ConOk (163,c):=mkC Tryz.f163 [(.int .i64)] [4] (by kernel_rfl) (by kernel_rfl) (by kernel_rfl) (by kernel_rfl) allNil allNil AllOk.nil fun a=>run FUEL a.1
end F163
namespace F223
def cons:List (Nat×Con):=[]
def exts:List (Nat×Ext):=[]
def h:List (Nat×Nat×Hint):=[]
noncomputable def e (M:Nat):Env:=env cons exts h M
def s (M:Nat) (p0:Int):Option D:=
 (cond (ltI p0 32) (some (db true)) (cond (eqI p0 47) (some (db true)) (cond (leI 127 p0) (cond (leI p0 159) (some (db true)) (some (db (eqI p0 65533)))) (some (db (eqI p0 65533))))))
theorem run (M:Nat) (p0:Int):callS (e M) (tblOf []) 12 (.fn 223) [.d (.int .i32) (D.int .i32 p0)] [] (fun v H=>finish ty [4] v H)=s M p0:=by kernel_rfl
def c:Con:={ run:=fun ds=>match ds with | [p0]=>s FUEL p0.i | _=>none,plain:=true }
theorem ok:ConOk (223,c):=mkC Tryz.f223 [(.int .i32)] [4] (by kernel_rfl) (by kernel_rfl) (by kernel_rfl) (by kernel_rfl) allNil allNil AllOk.nil fun a=>run FUEL a.1
end F223
namespace F224
def cons:List (Nat×Con):=[]
def exts:List (Nat×Ext):=[]
def h:List (Nat×Nat×Hint):=[(224,3,{ live:=[3,5] })]
noncomputable def e (M:Nat):Env:=env cons exts h M
structure S3 where
 (i1:Int) (s2:ByteArray) (n3:Nat)
inductive X3 where
 | e0 (f:Int) (g:ByteArray) (j:Nat)
def st3 (M:Nat):S3→(S3→Option D)→(X3→Option D)→Option D
 | ⟨j,f,g⟩,rec,K=>(cond (decide (g<f.size)) (rec ⟨(ad .i64 j 1),f,(g+(Utf8.decode f g).2)⟩) (K (.e0 j f g)))
def ex3 (k:Kont):X3→Option D
 | .e0 f g j=>k (.exit 0) ((us 3 ((vi f)::(us 1 ((.iter 0)::(.tup [(vb false)])::(vb false)::(us 3 [])))))) [(.iter g j)]
def lv3:S3→List Leaf
 | ⟨f,g,j⟩=>[.i f,.s g,.n j]
def of3:List Leaf→Option S3
 | [.i f,.s g,.n j]=>some ⟨f,g,j⟩
 | _=>none
def ps3:List PV:=((up 3 ((.d (.int .i64) (.int .i64))::(up 1 ((.iter 0)::(up 5 []))))))
def qs3:List PO:=[.iter]
noncomputable def t (M:Nat):List Ent:=⟨224,11,0,3,sumS [3,5] ps3 qs3 [] of3 (st3 M) ex3 M⟩::[]
theorem t_ok (M:Nat):AllOk (e M) (tblOf (t M)):=AllOk.addS (n0:=1) (lv:=lv3) AllOk.nil (by kernel_rfl) rfl (by intro ls s h;unfold of3 at h;(repeat' split at h)<;>simp at h;subst h;rfl) (by intro s;kernel_rfl) (by intro s;kernel_rfl) (by intro s nx k;kernel_rfl)
def s (M:Nat) (p0:ByteArray):Option D:=
 (goS (st3 M) M ⟨0,p0,0⟩ fun x=>match x with | .e0 f g j=>(some (di f)))
theorem run (M:Nat) (p0:ByteArray):callS (e M) (tblOf (t M)) 12 (.fn 224) [.d .str (dS p0)] [] (fun v H=>finish ty [3] v H)=s M p0:=by kernel_rfl
def c:Con:={ run:=fun ds=>match ds with | [p0]=>s FUEL p0.s | _=>none,plain:=true }
theorem ok:ConOk (224,c):=mkC Tryz.f224 [.str] [3] (by kernel_rfl) (by kernel_rfl) (by kernel_rfl) (by kernel_rfl) allNil allNil (t_ok FUEL) fun a=>run FUEL a.1
end F224
namespace F164
def cons:List (Nat×Con):=[(223,F223.c),(224,F224.c)]
def exts:List (Nat×Ext):=[]
def h:List (Nat×Nat×Hint):=[(250,2,{ live:=[1,2,10] })]
noncomputable def e (M:Nat):Env:=env cons exts h M
structure S250_2 where
 (b2:Bool) (s3:ByteArray) (n4:Nat)
inductive X250_2 where
 | e0 (f:Bool) (g:ByteArray) (j:Nat) (m o:D)
 | e1 (f:Bool) (g:ByteArray) (j:Nat)
def st250_2 (M:Nat):S250_2→(S250_2→Option D)→(X250_2→Option D)→Option D
 | ⟨j,f,g⟩,rec,K=>(cond (decide (g<f.size)) (bd (F223.s FUEL ((Utf8.decode f g).1:Int)) fun m=>(bd (match D.eqv ty eqDepth m (db j) .bool with | some z=>some (.bool z) | none=>none) fun o=>(cond o.b (K (.e0 j f g m o)) (rec ⟨j,f,(g+(Utf8.decode f g).2)⟩)))) (K (.e1 j f g)))
def ex250_2 (k:Kont):X250_2→Option D
 | .e0 j g f m o=>k .ret ((us 1 ((vk .func (D.fn 223))::(vb j)::(us 3 ((vi (nI f))::(vi (nI f))::(vk (.int .i32) (D.int .i32 ((Utf8.decode g f).1:Int)))::(us 1 ((.iter 0)::(.tup [(vb true),(vi (nI f)),(vk (.int .i32) (D.int .i32 ((Utf8.decode g f).1:Int)))])::(vb true)::(vi (nI f))::(vk (.int .i32) (D.int .i32 ((Utf8.decode g f).1:Int)))::(vk .func (D.fn 223))::(vk (.int .i32) (D.int .i32 ((Utf8.decode g f).1:Int)))::(vk .bool m)::(vb j)::(vk .bool o)::(vi (nI f))::[]))))))) [(.iter g (f+(Utf8.decode g f).2))]
 | .e1 f g j=>k (.exit 0) ((us 1 ((vk .func (D.fn 223))::(vb f)::(us 7 ((.iter 0)::(.tup [(vb false)])::(vb false)::(us 8 [])))))) [(.iter g j)]
def lv250_2:S250_2→List Leaf
 | ⟨f,g,j⟩=>[.b f,.s g,.n j]
def of250_2:List Leaf→Option S250_2
 | [.b f,.s g,.n j]=>some ⟨f,g,j⟩
 | _=>none
def ps250_2:List PV:=((up 1 ((.d .func (.fn 223))::(.d .bool .bool)::(up 7 ((.iter 0)::(up 10 []))))))
def qs250_2:List PO:=[.iter]
noncomputable def t (M:Nat):List Ent:=⟨250,9,0,2,sumS [1,2,10] ps250_2 qs250_2 [] of250_2 (st250_2 M) ex250_2 M⟩::[]
theorem t_ok (M:Nat):AllOk (e M) (tblOf (t M)):=AllOk.addS (n0:=1) (lv:=lv250_2) AllOk.nil (by kernel_rfl) rfl (by intro ls s h;unfold of250_2 at h;(repeat' split at h)<;>simp at h;subst h;rfl) (by intro s;kernel_rfl) (by intro s;kernel_rfl) (by intro s nx k;kernel_rfl)
def s (M:Nat) (p0:ByteArray):Option D:=
 (bd (F224.s FUEL p0) fun f=>(cond (gtI f.i 0) (cond (leI f.i 24) (goS (st250_2 M) M ⟨true,p0,0⟩ fun x=>match x with | .e0 j m g o p=>(cond (ltI (nI g) 0) (cond (inb 0 p0.size) (cond (neI (byteAt p0 0) 32) (cond (inb (sb .i64 (nI p0.size) 1) p0.size) (some (db (neI (byteAt p0 (sb .i64 (nI p0.size) 1).toNat) 32))) none) (some (db false))) none) (some (db false))) | .e1 j m g=>(cond (inb 0 p0.size) (cond (neI (byteAt p0 0) 32) (cond (inb (sb .i64 (nI p0.size) 1) p0.size) (some (db (neI (byteAt p0 (sb .i64 (nI p0.size) 1).toNat) 32))) none) (some (db false))) none)) (some (db false))) (some (db false))))
theorem run (M:Nat) (p0:ByteArray):callS (e M) (tblOf (t M)) 12 (.fn 164) [.d .str (dS p0)] [] (fun v H=>finish ty [4] v H)=s M p0:=by kernel_rfl
def c:Con:={ run:=fun ds=>match ds with | [p0]=>s FUEL p0.s | _=>none,plain:=true }
theorem ok:ConOk (164,c):=mkC Tryz.f164 [.str] [4] (by kernel_rfl) (by kernel_rfl) (by kernel_rfl) (by kernel_rfl) (allCons F223.ok (allCons F224.ok allNil)) allNil (t_ok FUEL) fun a=>run FUEL a.1
end F164
namespace F251
def cons:List (Nat×Con):=[(261,decodeC)]
def exts:List (Nat×Ext):=[]
def h:List (Nat×Nat×Hint):=[]
noncomputable def e (M:Nat):Env:=env cons exts h M
def s (M:Nat) (p0:ByteArray) (p1:Int) (p2:Int):Option D:=
 (cond (neI p2 65533) (some (db false)) (cond ((leI 0 p1)&&(leI p1 (nI p0.size))&&(leI (nI p0.size) (nI p0.size))&&(leI (nI p0.size) (nI p0.size))) (some (db (ltI ((Lib.decodeGo (p0.extract p1.toNat p0.size)).2:Int) 2))) none))
theorem run (M:Nat) (p0:ByteArray) (p1:Int) (p2:Int):callS (e M) (tblOf []) 12 (.fn 251) [.d .str (dS p0),.d (.int .i64) (di p1),.d (.int .i32) (D.int .i32 p2)] [] (fun v H=>finish ty [4] v H)=s M p0 p1 p2:=by kernel_rfl
def c:Con:={ run:=fun ds=>match ds with | [p0,p1,p2]=>s FUEL p0.s p1.i p2.i | _=>none,plain:=true }
theorem ok:ConOk (251,c):=mkC Tryz.f251 [.str,(.int .i64),(.int .i32)] [4] (by kernel_rfl) (by kernel_rfl) (by kernel_rfl) (by kernel_rfl) (allCons decode_ok allNil) allNil AllOk.nil fun a=>run FUEL a.1 a.2.1 a.2.2.1
end F251
namespace F226
def cons:List (Nat×Con):=[(251,F251.c)]
def exts:List (Nat×Ext):=[]
def h:List (Nat×Nat×Hint):=[(226,3,{ live:=[0,3,7],rows:=[(3,21)] })]
noncomputable def e (M:Nat):Env:=env cons exts h M
structure S3 where
 (s1:ByteArray) (n2 n3:Nat) (s4:ByteArray) (n5:Nat) (b6:Bool) (l7:List D)
inductive X3 where
 | e0 (f:ByteArray) (g j:Nat) (m:ByteArray) (o:Nat) (p:Bool) (q:List D)
def st3 (M:Nat):S3→(S3→Option D)→(X3→Option D)→Option D
 | ⟨m,o,j,g,f,p,q⟩,rec,K=>(cond (decide (f<g.size)) (bd (F251.s FUEL m (nI f) ((Utf8.decode g f).1:Int)) fun r=>(cond r.b (cond (inb (nI f) m.size) (cond (mx (j+1)) (rec ⟨m,0,(j+1),g,(f+(Utf8.decode g f).2),(p||true),(ap ((q.drop o).take j) [(D.int .i32 (ad .i32 1114112 (cv .i32 (byteAt m f))))])⟩) none) none) (cond (mx (j+1)) (rec ⟨m,0,(j+1),g,(f+(Utf8.decode g f).2),(p||true),(ap ((q.drop o).take j) [(D.int .i32 ((Utf8.decode g f).1:Int))])⟩) none))) (K (.e0 m o j g f p q)))
def ex3 (k:Kont):X3→Option D
 | .e0 f g j m o p q=>k (.exit 0) ((vS f)::(us 2 ((.sref 1 g j)::(us 3 ((.iter 0)::(.tup [(vb false)])::(vb false)::(us 16 [])))))) [(.iter m o),(.row 21 true p q)]
def lv3:S3→List Leaf
 | ⟨f,g,j,m,o,p,q⟩=>[.s f,.n g,.n j,.s m,.n o,.b p,.l q]
def of3:List Leaf→Option S3
 | [.s f,.n g,.n j,.s m,.n o,.b p,.l q]=>some ⟨f,g,j,m,o,p,q⟩
 | _=>none
def ps3:List PV:=((.d .str .str)::(up 2 ((.sref 1)::(up 3 ((.iter 0)::(up 18 []))))))
def qs3:List PO:=[.iter,(.row 21 true)]
noncomputable def t (M:Nat):List Ent:=⟨226,11,0,3,sumS [0,3,7] ps3 qs3 [(3,1)] of3 (st3 M) ex3 M⟩::[]
theorem t_ok (M:Nat):AllOk (e M) (tblOf (t M)):=AllOk.addS (n0:=2) (lv:=lv3) AllOk.nil (by kernel_rfl) rfl (by intro ls s h;unfold of3 at h;(repeat' split at h)<;>simp at h;subst h;rfl) (by intro s;kernel_rfl) (by intro s;kernel_rfl) (by intro s nx k;kernel_rfl)
def s (M:Nat) (p0:ByteArray):Option D:=
 (goS (st3 M) M ⟨p0,0,0,p0,0,false,[]⟩ fun x=>match x with | .e0 o g j p q m f=>(cond ((decide (j=f.length))&&(decide (g=0))) (some (.slice m f)) none))
theorem run (M:Nat) (p0:ByteArray):callS (e M) (tblOf (t M)) 12 (.fn 226) [.d .str (dS p0)] [] (fun v H=>finishFresh ty [308] v H)=s M p0:=by kernel_rfl
def c:Con:={ run:=fun ds=>match ds with | [p0]=>s FUEL p0.s | _=>none,fresh:=true }
theorem ok:ConOk (226,c):=mkF Tryz.f226 [.str] [308] (by kernel_rfl) (by kernel_rfl) (by kernel_rfl) (allCons F251.ok allNil) allNil (t_ok FUEL) fun a=>run FUEL a.1
end F226
namespace F165
def cons:List (Nat×Con):=[(226,F226.c)]
def exts:List (Nat×Ext):=[]
def h:List (Nat×Nat×Hint):=[(165,3,{ live:=[5,6,13,14,15] })]
noncomputable def e (M:Nat):Env:=env cons exts h M
structure S3 where
 (n3 n4 n5 n6 n7 n8:Nat) (i9 i10:Int) (b11:Bool) (l12:List D) (b13:Bool) (l14:List D)
inductive X3 where
 | e0 (f g j m o p:Nat) (q r:Int) (u:Bool) (w:List D) (y:Bool) (A:List D)
 | e1 (f g j m o p:Nat) (q r:Int) (u:Bool) (w:List D) (y:Bool) (A:List D)
 | e2 (f g j m o p:Nat) (q r:Int) (u:Bool) (w:List D) (y:Bool) (A:List D)
def st3 (M:Nat):S3→(S3→Option D)→(X3→Option D)→Option D
 | ⟨u,w,j,g,m,o,p,f,y,q,A,r⟩,rec,K=>(cond (ltI f p) (cond (inb f o) (cond (geI f (nI g)) (K (.e0 u w j g m o p f y q A r)) (cond (inb f g) (cond (neI (ix q (m+f.toNat)).i (ix r (j+f.toNat)).i) (cond (inb f g) (K (.e1 u w j g m o p f y q A r)) none) (rec ⟨u,w,j,g,m,o,p,(ad .i64 f 1),y,q,A,r⟩)) none)) none) (K (.e2 u w j g m o p f y q A r)))
def ex3 (k:Kont):X3→Option D
 | .e0 q r o g j u p f w m y A=>k .ret ((us 4 ((vb false)::(.sref 0 q r)::(.sref 1 o g)::(vi f)::(vk (.int .i32) (ix m (j+f.toNat)))::(us 4 ((.sref 0 j u)::(vi p)::(vi f)::(vb (ltI f p))::(vi f)::(.ptr 0 [(j+f.toNat)] (.int .i32))::(vk (.int .i32) (ix m (j+f.toNat)))::(vi f)::(.sref 1 o g)::(vi (nI g))::(vb (geI f (nI g)))::(us 18 [])))))) [(.row 21 true w m),(.row 21 true y A)]
 | .e1 r u g o j w q f y m A p=>k .ret ((us 4 ((vb (ltI (ix m (j+f.toNat)).i (ix p (g+f.toNat)).i))::(.sref 0 r u)::(.sref 1 g o)::(vi f)::(vk (.int .i32) (ix m (j+f.toNat)))::(us 4 ((.sref 0 j w)::(vi q)::(vi f)::(vb (ltI f q))::(vi f)::(.ptr 0 [(j+f.toNat)] (.int .i32))::(vk (.int .i32) (ix m (j+f.toNat)))::(vi f)::(.sref 1 g o)::(vi (nI o))::(vb (geI f (nI o)))::(vk (.int .i32) (ix m (j+f.toNat)))::(.sref 1 g o)::(vi f)::(.ptr 1 [(g+f.toNat)] (.int .i32))::(vk (.int .i32) (ix p (g+f.toNat)))::(vb (neI (ix m (j+f.toNat)).i (ix p (g+f.toNat)).i))::(vk (.int .i32) (ix m (j+f.toNat)))::(.sref 1 g o)::(vi f)::(.ptr 1 [(g+f.toNat)] (.int .i32))::(vk (.int .i32) (ix p (g+f.toNat)))::(vb (ltI (ix m (j+f.toNat)).i (ix p (g+f.toNat)).i))::(us 6 [])))))) [(.row 21 true y m),(.row 21 true A p)]
 | .e2 j m o p q r f g u w y A=>k (.exit 0) ((us 5 ((.sref 0 j m)::(.sref 1 o p)::(us 6 ((.sref 0 q r)::(vi f)::(vi g)::(vb (ltI g f))::(us 25 [])))))) [(.row 21 true u w),(.row 21 true y A)]
def lv3:S3→List Leaf
 | ⟨f,g,j,m,o,p,q,r,u,w,y,A⟩=>[.n f,.n g,.n j,.n m,.n o,.n p,.i q,.i r,.b u,.l w,.b y,.l A]
def of3:List Leaf→Option S3
 | [.n f,.n g,.n j,.n m,.n o,.n p,.i q,.i r,.b u,.l w,.b y,.l A]=>some ⟨f,g,j,m,o,p,q,r,u,w,y,A⟩
 | _=>none
def ps3:List PV:=((up 5 ((.sref 0)::(.sref 1)::(up 6 ((.sref 0)::(.d (.int .i64) (.int .i64))::(.d (.int .i64) (.int .i64))::(up 26 []))))))
def qs3:List PO:=[(.row 21 true),(.row 21 true)]
noncomputable def t (M:Nat):List Ent:=⟨165,11,0,3,sumS [5,6,13,14,15] ps3 qs3 [] of3 (st3 M) ex3 M⟩::[]
theorem t_ok (M:Nat):AllOk (e M) (tblOf (t M)):=AllOk.addS (n0:=2) (lv:=lv3) AllOk.nil (by kernel_rfl) rfl (by intro ls s h;unfold of3 at h;(repeat' split at h)<;>simp at h;subst h;rfl) (by intro s;kernel_rfl) (by intro s;kernel_rfl) (by intro s nx k;kernel_rfl)
def s (M:Nat) (p0:ByteArray) (p1:ByteArray):Option D:=
 (bd (F226.s FUEL p0) fun f=>(bd (F226.s FUEL p1) fun j=>(goS (st3 M) M ⟨0,f.elems.length,0,j.elems.length,0,f.elems.length,(nI f.elems.length),0,f.nn,f.elems,j.nn,j.elems⟩ fun x=>match x with | .e0 w m o p q y A g B r C u=>(some (db false)) | .e1 w m o p q y A g B r C u=>(some (db (ltI (ix r (q+g.toNat)).i (ix u (o+g.toNat)).i))) | .e2 w m o p q y A g B r C u=>(some (db (ltI (nI m) (nI p)))))))
theorem run (M:Nat) (p0:ByteArray) (p1:ByteArray):callS (e M) (tblOf (t M)) 12 (.fn 165) [.d .str (dS p0),.d .str (dS p1)] [] (fun v H=>finish ty [4] v H)=s M p0 p1:=by kernel_rfl
def c:Con:={ run:=fun ds=>match ds with | [p0,p1]=>s FUEL p0.s p1.s | _=>none,plain:=true }
theorem ok:ConOk (165,c):=mkC Tryz.f165 [.str,.str] [4] (by kernel_rfl) (by kernel_rfl) (by kernel_rfl) (by kernel_rfl) (allCons F226.ok allNil) allNil (t_ok FUEL) fun a=>run FUEL a.1 a.2.1
end F165
namespace F106
def k0_:K:=(.struct [3,9,9,4,3,66])
def cons:List (Nat×Con):=[(163,F163.c),(164,F164.c),(165,F165.c)]
def exts:List (Nat×Ext):=[]
def h:List (Nat×Nat×Hint):=[(106,6,{ live:=[1,50,51,52] })]
noncomputable def e (M:Nat):Env:=env cons exts h M
structure S6 where
 (d3:D) (i4 i5:Int) (d6:D)
inductive X6 where
 | e0 (f:D) (g j:Int) (m o:D)
 | e1 (f:D) (g j:Int) (m o p:D)
 | e2 (f:D) (g j:Int) (m:D)
def st6 (M:Nat):S6→(S6→Option D)→(X6→Option D)→Option D
 | ⟨g,m,f,j⟩,rec,K=>(cond (ltI f m) (cond (inb f g.elems.length) (bd (F164.s FUEL (ix g.elems f.toNat).s) fun o=>(cond (!o.b) (K (.e0 g m f j o)) (cond (gtI f 0) (cond (inb (sb .i64 f 1) (j.at 5).elems.length) (bd (F165.s FUEL (ix (j.at 5).elems (sb .i64 f 1).toNat).s (ix g.elems f.toNat).s) fun p=>(cond (!p.b) (K (.e1 g m f j o p)) (rec ⟨g,m,(ad .i64 f 1),j⟩))) none) (rec ⟨g,m,(ad .i64 f 1),j⟩)))) none) (K (.e2 g m f j)))
def ex6 (k:Kont):X6→Option D
 | .e0 g j f o m=>k .ret ((us 1 ((.ptr 0 [] k0_)::(vb false)::(vi f)::(vk .str (ix g.elems f.toNat))::(us 45 ((vk (.slice 9) g)::(vi j)::(vi f)::(vb (ltI f j))::(vi f)::(.cptr .str (ix g.elems f.toNat))::(vk .str (ix g.elems f.toNat))::(vk .str (ix g.elems f.toNat))::(vk .bool m)::(vb (!m.b))::(vb true)::v0::v0::v0::v0::v0::v0::v0::v0::v0::v0::v0::v0::v0::(vb true)::(us 1 [])))))) [(.var k0_ (vk k0_ o))]
 | .e1 g o f j p m=>k .ret ((us 1 ((.ptr 0 [] k0_)::(vb false)::(vi f)::(vk .str (ix g.elems f.toNat))::(us 45 ((vk (.slice 9) g)::(vi o)::(vi f)::(vb (ltI f o))::(vi f)::(.cptr .str (ix g.elems f.toNat))::(vk .str (ix g.elems f.toNat))::(vk .str (ix g.elems f.toNat))::(vk .bool p)::(vb (!p.b))::(vb false)::(vi f)::(vb (gtI f 0))::(vb true)::(.ptr 0 [5] (.slice 9))::(vk (.slice 9) (j.at 5))::(vi f)::(vi (sb .i64 f 1))::(.cptr .str (ix (j.at 5).elems (sb .i64 f 1).toNat))::(vk .str (ix (j.at 5).elems (sb .i64 f 1).toNat))::(vk .str (ix g.elems f.toNat))::(vk .bool m)::(vb (!m.b))::(vb (!m.b))::(vb (!m.b))::(us 1 [])))))) [(.var k0_ (vk k0_ j))]
 | .e2 j f g m=>k (.exit 0) ((us 1 ((.ptr 0 [] k0_)::(us 48 ((vk (.slice 9) j)::(vi f)::(vi g)::(vb (ltI g f))::(us 22 [])))))) [(.var k0_ (vk k0_ m))]
def lv6:S6→List Leaf
 | ⟨f,g,j,m⟩=>[.d f,.i g,.i j,.d m]
def of6:List Leaf→Option S6
 | [.d f,.i g,.i j,.d m]=>some ⟨f,g,j,m⟩
 | _=>none
def ps6:List PV:=((up 1 ((.ptr 0 [] k0_)::(up 48 ((.d (.slice 9) .x)::(.d (.int .i64) (.int .i64))::(.d (.int .i64) (.int .i64))::(up 23 []))))))
def qs6:List PO:=[(.var k0_ (.d k0_ .x))]
noncomputable def t (M:Nat):List Ent:=⟨106,11,0,6,sumS [1,50,51,52] ps6 qs6 [] of6 (st6 M) ex6 M⟩::[]
theorem t_ok (M:Nat):AllOk (e M) (tblOf (t M)):=AllOk.addS (n0:=1) (lv:=lv6) AllOk.nil (by kernel_rfl) rfl (by intro ls s h;unfold of6 at h;(repeat' split at h)<;>simp at h;subst h;rfl) (by intro s;kernel_rfl) (by intro s;kernel_rfl) (by intro s nx k;kernel_rfl)
def s (M:Nat) (p0:D):Option D:=
 (bd (F163.s FUEL (p0.at 0).i) fun o=>(cond (!o.b) (some (db false)) (bd (F164.s FUEL (p0.at 1).s) fun p=>(cond (!p.b) (some (db false)) (cond (gtI (nI (p0.at 2).s.size) 600) (some (db false)) (cond (ltI (p0.at 4).i 0) (some (db false)) (cond (gtI (p0.at 4).i 1099511627776) (some (db false)) (cond (gtI (nI (p0.at 5).elems.length) 4) (some (db false)) (cond (!(p0.at 3).b) (cond (eqI (p0.at 4).i 0) (some (db (eqI (nI (p0.at 5).elems.length) 0))) (some (db false))) (goS (st6 M) M ⟨(p0.at 5),(nI (p0.at 5).elems.length),0,p0⟩ fun x=>match x with | .e0 f g j m q=>(some (db false)) | .e1 f g j m q r=>(some (db false)) | .e2 f g j m=>(some (db true))))))))))))
theorem run (M:Nat) (p0:D):callS (e M) (tblOf (t M)) 12 (.fn 106) [.d (.struct [3,9,9,4,3,66]) p0] [] (fun v H=>finish ty [4] v H)=s M p0:=by kernel_rfl
def c:Con:={ run:=fun ds=>match ds with | [p0]=>s FUEL p0 | _=>none,plain:=true }
theorem ok:ConOk (106,c):=mkC Tryz.f106 [(.struct [3,9,9,4,3,66])] [4] (by kernel_rfl) (by kernel_rfl) (by kernel_rfl) (by kernel_rfl) (allCons F163.ok (allCons F164.ok (allCons F165.ok allNil))) allNil (t_ok FUEL) fun a=>run FUEL a.1
end F106
namespace F31
def k0_:K:=(.struct [22,3,3])
def k1_:K:=(.struct [3,9,9,4,3,66])
def cons:List (Nat×Con):=[]
def exts:List (Nat×Ext):=[]
def h:List (Nat×Nat×Hint):=[(78,2,{ live:=[0,1,7,8] })]
noncomputable def e (M:Nat):Env:=env cons exts h M
structure S78_2 where
 (d1:D) (i2 i3:Int) (d4:D) (s5:ByteArray)
inductive X78_2 where
 | e0 (f:D) (g j:Int) (m:D) (o:ByteArray)
 | e1 (f:D) (g j:Int) (m:D) (o:ByteArray)
def st78_2 (M:Nat):S78_2→(S78_2→Option D)→(X78_2→Option D)→Option D
 | ⟨g,j,f,o,m⟩,rec,K=>(cond (ltI f j) (cond (inb f g.elems.length) (cond (eqS ((ix g.elems f.toNat).at 1).s m) (K (.e0 g j f o m)) (rec ⟨g,j,(ad .i64 f 1),o,m⟩)) none) (K (.e1 g j f o m)))
def ex78_2 (k:Kont):X78_2→Option D
 | .e0 g j f o m=>k .ret ((vk (.slice 68) g)::(.func (.func 79) [] [(.ptr 1 [] .str)])::(us 2 ((vi f)::(vi f)::(us 1 ((vi j)::(vi f)::(vb (ltI f j))::(vi f)::(.func (.func 79) [] [(.ptr 1 [] .str)])::(vk (.slice 68) g)::(vi f)::(.cptr k1_ (ix g.elems f.toNat))::(vk k1_ (ix g.elems f.toNat))::(vb (eqS ((ix g.elems f.toNat).at 1).s m))::(vi f)::(us 1 [])))))) [(.var k0_ (vk k0_ o)),(.var .str (vS m)),(.var k1_ (vk k1_ (ix g.elems f.toNat)))]
 | .e1 j f g m o=>k (.exit 0) ((vk (.slice 68) j)::(.func (.func 79) [] [(.ptr 1 [] .str)])::(us 5 ((vi f)::(vi g)::(vb (ltI g f))::(us 9 [])))) [(.var k0_ (vk k0_ m)),(.var .str (vS o))]
def lv78_2:S78_2→List Leaf
 | ⟨f,g,j,m,o⟩=>[.d f,.i g,.i j,.d m,.s o]
def of78_2:List Leaf→Option S78_2
 | [.d f,.i g,.i j,.d m,.s o]=>some ⟨f,g,j,m,o⟩
 | _=>none
def ps78_2:List PV:=((.d (.slice 68) .x)::(.func 79 [] [(.ptr 1 [] .str)])::(up 5 ((.d (.int .i64) (.int .i64))::(.d (.int .i64) (.int .i64))::(up 10 []))))
def qs78_2:List PO:=[(.var k0_ (.d k0_ .x)),(.var .str (.d .str .str))]
noncomputable def t (M:Nat):List Ent:=⟨78,10,2,2,sumS [0,1,7,8] ps78_2 qs78_2 [] of78_2 (st78_2 M) ex78_2 M⟩::[]
theorem t_ok (M:Nat):AllOk (e M) (tblOf (t M)):=AllOk.addS (n0:=2) (lv:=lv78_2) AllOk.nil (by kernel_rfl) rfl (by intro ls s h;unfold of78_2 at h;(repeat' split at h)<;>simp at h;subst h;rfl) (by intro s;kernel_rfl) (by intro s;kernel_rfl) (by intro s nx k;kernel_rfl)
def s (M:Nat) (p0:D) (p1:ByteArray):Option D:=
 (goS (st78_2 M) M ⟨(p0.at 0),(nI (p0.at 0).elems.length),0,p0,p1⟩ fun x=>match x with | .e0 g j f m o=>(some (di f)) | .e1 g j f m o=>(some (di (-1))))
theorem run (M:Nat) (p0:D) (p1:ByteArray):callS (e M) (tblOf (t M)) 12 (.fn 31) [.d (.struct [22,3,3]) p0,.d .str (dS p1)] [] (fun v H=>finish ty [3] v H)=s M p0 p1:=by kernel_rfl
def c:Con:={ run:=fun ds=>match ds with | [p0,p1]=>s FUEL p0 p1.s | _=>none,plain:=true }
theorem ok:ConOk (31,c):=mkC Tryz.f31 [(.struct [22,3,3]),.str] [3] (by kernel_rfl) (by kernel_rfl) (by kernel_rfl) (by kernel_rfl) allNil allNil (t_ok FUEL) fun a=>run FUEL a.1 a.2.1
end F31
namespace F53
def k0_:K:=(.struct [22,3,3])
def k1_:K:=(.struct [3,9,9,4,3,66])
def cons:List (Nat×Con):=[(31,F31.c),(105,F105.c),(106,F106.c)]
def exts:List (Nat×Ext):=[]
def h:List (Nat×Nat×Hint):=[(53,4,{ live:=[1,22,23,24] })]
noncomputable def e (M:Nat):Env:=env cons exts h M
structure S4 where
 (d3:D) (i4 i5:Int) (d6:D)
inductive X4 where
 | e0 (f:D) (g j:Int) (m o:D)
 | e1 (f:D) (g j:Int) (m o:D)
 | e2 (f:D) (g j:Int) (m o p:D)
 | e3 (f:D) (g j:Int) (m o p:D)
 | e4 (f:D) (g j:Int) (m:D)
def st4 (M:Nat):S4→(S4→Option D)→(X4→Option D)→Option D
 | ⟨g,m,f,j⟩,rec,K=>(cond (ltI f m) (cond (inb f g.elems.length) (bd (F106.s FUEL (ix g.elems f.toNat)) fun o=>(cond (!o.b) (K (.e0 g m f j o)) (cond (gtI ((ix g.elems f.toNat).at 0).i (j.at 1).i) (K (.e1 g m f j o)) (bd (F31.s FUEL j ((ix g.elems f.toNat).at 1).s) fun p=>(cond (neI p.i f) (K (.e2 g m f j o p)) (cond (gtI f 0) (cond (inb (sb .i64 f 1) (j.at 0).elems.length) (cond (geI ((ix (j.at 0).elems (sb .i64 f 1).toNat).at 0).i ((ix g.elems f.toNat).at 0).i) (K (.e3 g m f j o p)) (rec ⟨g,m,(ad .i64 f 1),j⟩)) none) (rec ⟨g,m,(ad .i64 f 1),j⟩))))))) none) (K (.e4 g m f j)))
def ex4 (k:Kont):X4→Option D
 | .e0 g j f o m=>k .ret ((us 1 ((.ptr 0 [] k0_)::(vb false)::(vi f)::(.ptr 1 [] k1_)::(us 17 ((vk (.slice 68) g)::(vi j)::(vi f)::(vb (ltI f j))::(vi f)::(.cptr k1_ (ix g.elems f.toNat))::(vk k1_ (ix g.elems f.toNat))::(vk k1_ (ix g.elems f.toNat))::(vk .bool m)::(vb (!m.b))::(vb true)::v0::v0::v0::v0::v0::(vb true)::(vb true)::v0::v0::v0::v0::v0::v0::(vb true)::(vb true)::v0::v0::v0::v0::v0::v0::v0::v0::v0::v0::v0::v0::v0::v0::(vb true)::(us 1 [])))))) [(.var k0_ (vk k0_ o)),(.var k1_ (vk k1_ (ix g.elems f.toNat)))]
 | .e1 g m f j o=>k .ret ((us 1 ((.ptr 0 [] k0_)::(vb false)::(vi f)::(.ptr 1 [] k1_)::(us 17 ((vk (.slice 68) g)::(vi m)::(vi f)::(vb (ltI f m))::(vi f)::(.cptr k1_ (ix g.elems f.toNat))::(vk k1_ (ix g.elems f.toNat))::(vk k1_ (ix g.elems f.toNat))::(vk .bool o)::(vb (!o.b))::(vb false)::(.ptr 1 [0] (.int .i64))::(vk (.int .i64) ((ix g.elems f.toNat).at 0))::(.ptr 0 [1] (.int .i64))::(vk (.int .i64) (j.at 1))::(vb (gtI ((ix g.elems f.toNat).at 0).i (j.at 1).i))::(vb (gtI ((ix g.elems f.toNat).at 0).i (j.at 1).i))::(vb true)::v0::v0::v0::v0::v0::v0::(vb true)::(vb true)::v0::v0::v0::v0::v0::v0::v0::v0::v0::v0::v0::v0::v0::v0::(vb true)::(us 1 [])))))) [(.var k0_ (vk k0_ j)),(.var k1_ (vk k1_ (ix g.elems f.toNat)))]
 | .e2 g o f j p m=>k .ret ((us 1 ((.ptr 0 [] k0_)::(vb false)::(vi f)::(.ptr 1 [] k1_)::(us 17 ((vk (.slice 68) g)::(vi o)::(vi f)::(vb (ltI f o))::(vi f)::(.cptr k1_ (ix g.elems f.toNat))::(vk k1_ (ix g.elems f.toNat))::(vk k1_ (ix g.elems f.toNat))::(vk .bool p)::(vb (!p.b))::(vb false)::(.ptr 1 [0] (.int .i64))::(vk (.int .i64) ((ix g.elems f.toNat).at 0))::(.ptr 0 [1] (.int .i64))::(vk (.int .i64) (j.at 1))::(vb (gtI ((ix g.elems f.toNat).at 0).i (j.at 1).i))::(vb (gtI ((ix g.elems f.toNat).at 0).i (j.at 1).i))::(vb false)::(vk k0_ j)::(.ptr 1 [1] .str)::(vk .str ((ix g.elems f.toNat).at 1))::(vk (.int .i64) m)::(vi f)::(vb (neI m.i f))::(vb (neI m.i f))::(vb true)::v0::v0::v0::v0::v0::v0::v0::v0::v0::v0::v0::v0::v0::v0::(vb true)::(us 1 [])))))) [(.var k0_ (vk k0_ j)),(.var k1_ (vk k1_ (ix g.elems f.toNat)))]
 | .e3 g o f j p m=>k .ret ((us 1 ((.ptr 0 [] k0_)::(vb false)::(vi f)::(.ptr 1 [] k1_)::(us 17 ((vk (.slice 68) g)::(vi o)::(vi f)::(vb (ltI f o))::(vi f)::(.cptr k1_ (ix g.elems f.toNat))::(vk k1_ (ix g.elems f.toNat))::(vk k1_ (ix g.elems f.toNat))::(vk .bool p)::(vb (!p.b))::(vb false)::(.ptr 1 [0] (.int .i64))::(vk (.int .i64) ((ix g.elems f.toNat).at 0))::(.ptr 0 [1] (.int .i64))::(vk (.int .i64) (j.at 1))::(vb (gtI ((ix g.elems f.toNat).at 0).i (j.at 1).i))::(vb (gtI ((ix g.elems f.toNat).at 0).i (j.at 1).i))::(vb false)::(vk k0_ j)::(.ptr 1 [1] .str)::(vk .str ((ix g.elems f.toNat).at 1))::(vk (.int .i64) m)::(vi f)::(vb (neI m.i f))::(vb (neI m.i f))::(vb false)::(vi f)::(vb (gtI f 0))::(vb true)::(.ptr 0 [0] (.slice 68))::(vk (.slice 68) (j.at 0))::(vi f)::(vi (sb .i64 f 1))::(.cptr k1_ (ix (j.at 0).elems (sb .i64 f 1).toNat))::(.cptr (.int .i64) ((ix (j.at 0).elems (sb .i64 f 1).toNat).at 0))::(vk (.int .i64) ((ix (j.at 0).elems (sb .i64 f 1).toNat).at 0))::(.ptr 1 [0] (.int .i64))::(vk (.int .i64) ((ix g.elems f.toNat).at 0))::(vb (geI ((ix (j.at 0).elems (sb .i64 f 1).toNat).at 0).i ((ix g.elems f.toNat).at 0).i))::(vb (geI ((ix (j.at 0).elems (sb .i64 f 1).toNat).at 0).i ((ix g.elems f.toNat).at 0).i))::(vb (geI ((ix (j.at 0).elems (sb .i64 f 1).toNat).at 0).i ((ix g.elems f.toNat).at 0).i))::(us 1 [])))))) [(.var k0_ (vk k0_ j)),(.var k1_ (vk k1_ (ix g.elems f.toNat)))]
 | .e4 j f g m=>k (.exit 0) ((us 1 ((.ptr 0 [] k0_)::(us 20 ((vk (.slice 68) j)::(vi f)::(vi g)::(vb (ltI g f))::(us 38 [])))))) [(.var k0_ (vk k0_ m))]
def lv4:S4→List Leaf
 | ⟨f,g,j,m⟩=>[.d f,.i g,.i j,.d m]
def of4:List Leaf→Option S4
 | [.d f,.i g,.i j,.d m]=>some ⟨f,g,j,m⟩
 | _=>none
def ps4:List PV:=((up 1 ((.ptr 0 [] k0_)::(up 20 ((.d (.slice 68) .x)::(.d (.int .i64) (.int .i64))::(.d (.int .i64) (.int .i64))::(up 39 []))))))
def qs4:List PO:=[(.var k0_ (.d k0_ .x))]
noncomputable def t (M:Nat):List Ent:=⟨53,11,0,4,sumS [1,22,23,24] ps4 qs4 [] of4 (st4 M) ex4 M⟩::[]
theorem t_ok (M:Nat):AllOk (e M) (tblOf (t M)):=AllOk.addS (n0:=1) (lv:=lv4) AllOk.nil (by kernel_rfl) rfl (by intro ls s h;unfold of4 at h;(repeat' split at h)<;>simp at h;subst h;rfl) (by intro s;kernel_rfl) (by intro s;kernel_rfl) (by intro s nx k;kernel_rfl)
def s (M:Nat) (p0:D):Option D:=
 (cond (gtI (nI (p0.at 0).elems.length) 12) (some (db false)) (bd (F105.s FUEL (p0.at 1).i 1099511627776) fun p=>(cond (!p.b) (some (db false)) (bd (F105.s FUEL (p0.at 2).i 1099511627776) fun q=>(cond (!q.b) (some (db false)) (goS (st4 M) M ⟨(p0.at 0),(nI (p0.at 0).elems.length),0,p0⟩ fun x=>match x with | .e0 f g j m o=>(some (db false)) | .e1 f g j m o=>(some (db false)) | .e2 f g j m o r=>(some (db false)) | .e3 f g j m o r=>(some (db false)) | .e4 f g j m=>(some (db true))))))))
theorem run (M:Nat) (p0:D):callS (e M) (tblOf (t M)) 12 (.fn 53) [.d (.struct [22,3,3]) p0] [] (fun v H=>finish ty [4] v H)=s M p0:=by kernel_rfl
def c:Con:={ run:=fun ds=>match ds with | [p0]=>s FUEL p0 | _=>none,plain:=true }
theorem ok:ConOk (53,c):=mkC Tryz.f53 [(.struct [22,3,3])] [4] (by kernel_rfl) (by kernel_rfl) (by kernel_rfl) (by kernel_rfl) (allCons F31.ok (allCons F105.ok (allCons F106.ok allNil))) allNil (t_ok FUEL) fun a=>run FUEL a.1
end F53
namespace F108
def cons:List (Nat×Con):=[]
def exts:List (Nat×Ext):=[]
def h:List (Nat×Nat×Hint):=[]
noncomputable def e (M:Nat):Env:=env cons exts h M
def s (M:Nat) (p0:D):Option D:=
 (cond (eqI (p0.at 0).i 0) (cond (eqI (p0.at 0).i 0) (some (dl true [(D.iface 249 (p0.at 1)),(D.iface 246 (p0.at 2))])) (cond (eqI (p0.at 0).i 1) (some (dl true [(D.iface 249 (p0.at 1)),(D.iface 249 (p0.at 4))])) (cond (eqI (p0.at 0).i 2) (some (dl true [(D.iface 249 (p0.at 1)),(D.iface 249 (p0.at 3)),(D.iface 249 (p0.at 4)),(D.iface 250 (p0.at 5))])) (cond (eqI (p0.at 0).i 3) (some (dl true [(D.iface 249 (p0.at 1)),(D.iface 249 (p0.at 3))])) (cond (eqI (p0.at 0).i 6) (some (dl true [(D.iface 249 (p0.at 1))])) (cond (eqI (p0.at 0).i 7) (some (dl true [(D.iface 249 (p0.at 3))])) (some (dl false [])))))))) (cond (eqI (p0.at 0).i 4) (cond (eqI (p0.at 0).i 4) (some (dl true [(D.iface 249 (p0.at 1)),(D.iface 246 (p0.at 2))])) (cond (eqI (p0.at 0).i 1) (some (dl true [(D.iface 249 (p0.at 1)),(D.iface 249 (p0.at 4))])) (cond (eqI (p0.at 0).i 2) (some (dl true [(D.iface 249 (p0.at 1)),(D.iface 249 (p0.at 3)),(D.iface 249 (p0.at 4)),(D.iface 250 (p0.at 5))])) (cond (eqI (p0.at 0).i 3) (some (dl true [(D.iface 249 (p0.at 1)),(D.iface 249 (p0.at 3))])) (cond (eqI (p0.at 0).i 6) (some (dl true [(D.iface 249 (p0.at 1))])) (cond (eqI (p0.at 0).i 7) (some (dl true [(D.iface 249 (p0.at 3))])) (some (dl false [])))))))) (cond (eqI (p0.at 0).i 5) (some (dl true [(D.iface 249 (p0.at 1)),(D.iface 246 (p0.at 2))])) (cond (eqI (p0.at 0).i 1) (some (dl true [(D.iface 249 (p0.at 1)),(D.iface 249 (p0.at 4))])) (cond (eqI (p0.at 0).i 2) (some (dl true [(D.iface 249 (p0.at 1)),(D.iface 249 (p0.at 3)),(D.iface 249 (p0.at 4)),(D.iface 250 (p0.at 5))])) (cond (eqI (p0.at 0).i 3) (some (dl true [(D.iface 249 (p0.at 1)),(D.iface 249 (p0.at 3))])) (cond (eqI (p0.at 0).i 6) (some (dl true [(D.iface 249 (p0.at 1))])) (cond (eqI (p0.at 0).i 7) (some (dl true [(D.iface 249 (p0.at 3))])) (some (dl false []))))))))))
theorem run (M:Nat) (p0:D):callS (e M) (tblOf []) 12 (.fn 108) [.d (.struct [28,3,9,3,3,30]) p0] [] (fun v H=>finish ty [180] v H)=s M p0:=by kernel_rfl
def c:Con:={ run:=fun ds=>match ds with | [p0]=>s FUEL p0 | _=>none }
theorem ok:ConOk (108,c):=mkC Tryz.f108 [(.struct [28,3,9,3,3,30])] [180] (by kernel_rfl) (by kernel_rfl) (by kernel_rfl) (by kernel_rfl) allNil allNil AllOk.nil fun a=>run FUEL a.1
end F108
namespace F108f
def cons:List (Nat×Con):=[]
def exts:List (Nat×Ext):=[]
def h:List (Nat×Nat×Hint):=[(108,6,{ own:=true }),(108,8,{ own:=true }),(108,10,{ own:=true }),(108,12,{ own:=true }),(108,14,{ own:=true }),(108,16,{ own:=true })]
noncomputable def e (M:Nat):Env:=env cons exts h M
def s (M:Nat) (p0:D):Option D:=
 (cond (eqI (p0.at 0).i 0) (cond (eqI (p0.at 0).i 0) (some (.slice true [(D.iface 249 (p0.at 1)),(D.iface 246 (p0.at 2))])) (cond (eqI (p0.at 0).i 1) (some (.slice true [(D.iface 249 (p0.at 1)),(D.iface 249 (p0.at 4))])) (cond (eqI (p0.at 0).i 2) (some (.slice true [(D.iface 249 (p0.at 1)),(D.iface 249 (p0.at 3)),(D.iface 249 (p0.at 4)),(D.iface 250 (p0.at 5))])) (cond (eqI (p0.at 0).i 3) (some (.slice true [(D.iface 249 (p0.at 1)),(D.iface 249 (p0.at 3))])) (cond (eqI (p0.at 0).i 6) (some (.slice true [(D.iface 249 (p0.at 1))])) (cond (eqI (p0.at 0).i 7) (some (.slice true [(D.iface 249 (p0.at 3))])) (some (.slice false [])))))))) (cond (eqI (p0.at 0).i 4) (cond (eqI (p0.at 0).i 4) (some (.slice true [(D.iface 249 (p0.at 1)),(D.iface 246 (p0.at 2))])) (cond (eqI (p0.at 0).i 1) (some (.slice true [(D.iface 249 (p0.at 1)),(D.iface 249 (p0.at 4))])) (cond (eqI (p0.at 0).i 2) (some (.slice true [(D.iface 249 (p0.at 1)),(D.iface 249 (p0.at 3)),(D.iface 249 (p0.at 4)),(D.iface 250 (p0.at 5))])) (cond (eqI (p0.at 0).i 3) (some (.slice true [(D.iface 249 (p0.at 1)),(D.iface 249 (p0.at 3))])) (cond (eqI (p0.at 0).i 6) (some (.slice true [(D.iface 249 (p0.at 1))])) (cond (eqI (p0.at 0).i 7) (some (.slice true [(D.iface 249 (p0.at 3))])) (some (.slice false [])))))))) (cond (eqI (p0.at 0).i 5) (some (.slice true [(D.iface 249 (p0.at 1)),(D.iface 246 (p0.at 2))])) (cond (eqI (p0.at 0).i 1) (some (.slice true [(D.iface 249 (p0.at 1)),(D.iface 249 (p0.at 4))])) (cond (eqI (p0.at 0).i 2) (some (.slice true [(D.iface 249 (p0.at 1)),(D.iface 249 (p0.at 3)),(D.iface 249 (p0.at 4)),(D.iface 250 (p0.at 5))])) (cond (eqI (p0.at 0).i 3) (some (.slice true [(D.iface 249 (p0.at 1)),(D.iface 249 (p0.at 3))])) (cond (eqI (p0.at 0).i 6) (some (.slice true [(D.iface 249 (p0.at 1))])) (cond (eqI (p0.at 0).i 7) (some (.slice true [(D.iface 249 (p0.at 3))])) (some (.slice false []))))))))))
theorem run (M:Nat) (p0:D):callS (e M) (tblOf []) 12 (.fn 108) [.d (.struct [28,3,9,3,3,30]) p0] [] (fun v H=>finishFresh ty [180] v H)=s M p0:=by kernel_rfl
def c:Con:={ run:=fun ds=>match ds with | [p0]=>s FUEL p0 | _=>none,fresh:=true }
theorem ok:ConOk (108,c):=mkF Tryz.f108 [(.struct [28,3,9,3,3,30])] [180] (by kernel_rfl) (by kernel_rfl) (by kernel_rfl) allNil allNil AllOk.nil fun a=>run FUEL a.1
end F108f
namespace F166
def k0_:K:=(.struct [28,3,9,3,3,30])
def cons:List (Nat×Con):=[]
def exts:List (Nat×Ext):=[]
def h:List (Nat×Nat×Hint):=[(166,4,{ live:=[0,4,5,6,14,15,16],rows:=[(6,3)] })]
noncomputable def e (M:Nat):Env:=env cons exts h M
structure S4 where
 (i21:Int) (n22 n23:Nat) (d24:D) (i25 i26 i27 i28:Int) (s29:ByteArray) (i30 i31:Int) (d32:D) (i33 i34:Int) (d35:D) (i36 i37:Int) (d38:D) (b39:Bool) (l40:List D)
inductive X4 where
 | e0 (f:Int) (g j:Nat) (m:D) (o p q r:Int) (u:ByteArray) (w y:Int) (A:D) (B C:Int) (E:D) (F G:Int) (I:D) (J:Bool) (L:List D)
def st4 (M:Nat):S4→(S4→Option D)→(X4→Option D)→Option D
 | ⟨o,p,j,g,m,f,q,r,u,w,y,A,B,C,J,E,F,L,G,I⟩,rec,K=>(cond (ltI f m) (cond (inb f g.elems.length) (cond (isT 249 (ix g.elems f.toNat)) (cond (mx (j+1)) (rec ⟨o,0,(j+1),g,m,(ad .i64 f 1),q,r,u,w,y,A,B,C,J,E,F,L,(G||true),(ap ((I.drop p).take j) [(assertD 249 (di 0) (ix g.elems f.toNat))])⟩) none) (cond (isT 246 (ix g.elems f.toNat)) (rec ⟨o,p,j,g,m,(ad .i64 f 1),q,r,u,w,y,A,B,C,(assertD 246 (dS (bs [])) (ix g.elems f.toNat)),E,F,L,G,I⟩) (cond (isT 250 (ix g.elems f.toNat)) (rec ⟨o,p,j,g,m,(ad .i64 f 1),q,r,u,w,y,A,B,C,J,E,F,(assertD 250 (da (rp 32 (D.int .u8 0))) (ix g.elems f.toNat)),G,I⟩) (rec ⟨o,p,j,g,m,(ad .i64 f 1),q,r,u,w,y,A,B,C,J,E,F,L,G,I⟩)))) none) (K (.e0 o p j g m f q r u w y A B C J E F L G I)))
def ex4 (k:Kont):X4→Option D
 | .e0 j m o p f g q r u w y A B C E F G I J L=>k (.exit 0) ((vi j)::(us 3 ((.ptr 0 [] k0_)::(.ptr 1 [] k0_)::(.sref 2 m o)::(us 7 ((vk (.slice 183) p)::(vi f)::(vi g)::(vb (ltI g f))::(us 56 [])))))) [(.var k0_ (vk k0_ (da [(di q),(di r),(dS u),(di w),(di y),A]))),(.var k0_ (vk k0_ (da [(di B),(di C),E,(di F),(di G),I]))),(.row 3 true J L)]
def lv4:S4→List Leaf
 | ⟨f,g,j,m,o,p,q,r,u,w,y,A,B,C,E,F,G,I,J,L⟩=>[.i f,.n g,.n j,.d m,.i o,.i p,.i q,.i r,.s u,.i w,.i y,.d A,.i B,.i C,.d E,.i F,.i G,.d I,.b J,.l L]
def of4:List Leaf→Option S4
 | [.i f,.n g,.n j,.d m,.i o,.i p,.i q,.i r,.s u,.i w,.i y,.d A,.i B,.i C,.d E,.i F,.i G,.d I,.b J,.l L]=>some ⟨f,g,j,m,o,p,q,r,u,w,y,A,B,C,E,F,G,I,J,L⟩
 | _=>none
def ps4:List PV:=((.d (.int .i64) (.int .i64))::(up 3 ((.ptr 0 [] k0_)::(.ptr 1 [] k0_)::(.sref 2)::(up 7 ((.d (.slice 183) .x)::(.d (.int .i64) (.int .i64))::(.d (.int .i64) (.int .i64))::(up 57 []))))))
def qs4:List PO:=[(.var k0_ (.d k0_ (.agg [(.int .i64),(.int .i64),.str,(.int .i64),(.int .i64),.x]))),(.var k0_ (.d k0_ (.agg [(.int .i64),(.int .i64),.x,(.int .i64),(.int .i64),.x]))),(.row 3 true)]
noncomputable def t (M:Nat):List Ent:=⟨166,11,0,4,sumS [0,4,5,6,14,15,16] ps4 qs4 [(6,2)] of4 (st4 M) ex4 M⟩::[]
theorem t_ok (M:Nat):AllOk (e M) (tblOf (t M)):=AllOk.addS (n0:=3) (lv:=lv4) AllOk.nil (by kernel_rfl) rfl (by intro ls s h;unfold of4 at h;(repeat' split at h)<;>simp at h;subst h;rfl) (by intro s;kernel_rfl) (by intro s;kernel_rfl) (by intro s nx k;kernel_rfl)
def s (M:Nat) (p0:Int) (p1:D):Option D:=
 (goS (st4 M) M ⟨p0,0,0,p1,(nI p1.elems.length),0,0,0,(bs []),0,0,(da (rp 32 (D.int .u8 0))),p0,0,(dS (bs [])),0,0,(da (rp 32 (D.int .u8 0))),false,[]⟩ fun x=>match x with | .e0 q f g y A B C E F G I J m w o u r p L j=>(cond (eqI q 7) (cond (inb 0 g) (some (da [(di m),(di w),o,(ix j (f+0)),(di r),p])) none) (cond (eqI q 1) (cond (inb 1 g) (cond (inb 0 g) (some (da [(di m),(ix j (f+0)),o,(di u),(ix j (f+1)),p])) none) none) (cond (eqI q 2) (cond (inb 1 g) (cond (inb 2 g) (cond (inb 0 g) (some (da [(di m),(ix j (f+0)),o,(ix j (f+1)),(ix j (f+2)),p])) none) none) none) (cond (eqI q 3) (cond (inb 1 g) (cond (inb 0 g) (some (da [(di m),(ix j (f+0)),o,(ix j (f+1)),(di r),p])) none) none) (cond (inb 0 g) (some (da [(di m),(ix j (f+0)),o,(di u),(di r),p])) none))))))
theorem run (M:Nat) (p0:Int) (p1:D):callS (e M) (tblOf (t M)) 12 (.fn 166) [.d (.int .i64) (di p0),.d (.slice 183) p1] [] (fun v H=>finish ty [32] v H)=s M p0 p1:=by kernel_rfl
def c:Con:={ run:=fun ds=>match ds with | [p0,p1]=>s FUEL p0.i p1 | _=>none,plain:=true }
theorem ok:ConOk (166,c):=mkC Tryz.f166 [(.int .i64),(.slice 183)] [32] (by kernel_rfl) (by kernel_rfl) (by kernel_rfl) (by kernel_rfl) allNil allNil (t_ok FUEL) fun a=>run FUEL a.1 a.2.1
end F166
namespace F167
def cons:List (Nat×Con):=[]
def exts:List (Nat×Ext):=[]
def h:List (Nat×Nat×Hint):=[]
noncomputable def e (M:Nat):Env:=env cons exts h M
def s (M:Nat) (p0:Int) (p1:Int) (p2:Int):Option D:=
 (cond (leI p1 p0) (some (db (leI p0 p2))) (some (db false)))
theorem run (M:Nat) (p0:Int) (p1:Int) (p2:Int):callS (e M) (tblOf []) 12 (.fn 167) [.d (.int .i64) (di p0),.d (.int .i64) (di p1),.d (.int .i64) (di p2)] [] (fun v H=>finish ty [4] v H)=s M p0 p1 p2:=by kernel_rfl
def c:Con:={ run:=fun ds=>match ds with | [p0,p1,p2]=>s FUEL p0.i p1.i p2.i | _=>none,plain:=true }
theorem ok:ConOk (167,c):=mkC Tryz.f167 [(.int .i64),(.int .i64),(.int .i64)] [4] (by kernel_rfl) (by kernel_rfl) (by kernel_rfl) (by kernel_rfl) allNil allNil AllOk.nil fun a=>run FUEL a.1 a.2.1 a.2.2.1
end F167
namespace F107
def k0_:K:=(.struct [28,3,9,3,3,30])
def cons:List (Nat×Con):=[(108,F108.c),(164,F164.c),(166,F166.c),(167,F167.c)]
def exts:List (Nat×Ext):=[]
def h:List (Nat×Nat×Hint):=[(107,9,{ live:=[1,4,5,26,27,28] })]
noncomputable def e (M:Nat):Env:=env cons exts h M
structure S9 where
 (i11:Int) (d12 d13:D) (i14 i15:Int) (d16:D)
inductive X9 where
 | e0 (f:Int) (g j:D) (m o:Int) (p:D)
def st9 (M:Nat):S9→(S9→Option D)→(X9→Option D)→Option D
 | ⟨m,p,g,j,f,o⟩,rec,K=>(cond (ltI f j) (cond (inb f g.elems.length) (cond (isT 246 (ix g.elems f.toNat)) (bd (F164.s FUEL (assertD 246 (dS (bs [])) (ix g.elems f.toNat)).s) fun q=>(rec ⟨m,q,g,j,(ad .i64 f 1),o⟩)) (rec ⟨m,p,g,j,(ad .i64 f 1),o⟩)) none) (K (.e0 m p g j f o)))
def ex9 (k:Kont):X9→Option D
 | .e0 j m o f g p=>k (.exit 0) ((us 1 ((.ptr 0 [] k0_)::(us 2 ((vi j)::(vk .bool m)::(us 20 ((vk (.slice 183) o)::(vi f)::(vi g)::(vb (ltI g f))::(us 33 [])))))))) [(.var k0_ (vk k0_ p))]
def lv9:S9→List Leaf
 | ⟨f,g,j,m,o,p⟩=>[.i f,.d g,.d j,.i m,.i o,.d p]
def of9:List Leaf→Option S9
 | [.i f,.d g,.d j,.i m,.i o,.d p]=>some ⟨f,g,j,m,o,p⟩
 | _=>none
def ps9:List PV:=((up 1 ((.ptr 0 [] k0_)::(up 2 ((.d (.int .i64) (.int .i64))::(.d .bool .x)::(up 20 ((.d (.slice 183) .x)::(.d (.int .i64) (.int .i64))::(.d (.int .i64) (.int .i64))::(up 34 []))))))))
def qs9:List PO:=[(.var k0_ (.d k0_ .x))]
noncomputable def t (M:Nat):List Ent:=⟨107,11,0,9,sumS [1,4,5,26,27,28] ps9 qs9 [] of9 (st9 M) ex9 M⟩::[]
theorem t_ok (M:Nat):AllOk (e M) (tblOf (t M)):=AllOk.addS (n0:=1) (lv:=lv9) AllOk.nil (by kernel_rfl) rfl (by intro ls s h;unfold of9 at h;(repeat' split at h)<;>simp at h;subst h;rfl) (by intro s;kernel_rfl) (by intro s;kernel_rfl) (by intro s nx k;kernel_rfl)
def s (M:Nat) (p0:D):Option D:=
 (bd (F108.s FUEL p0) fun g=>(cond (eqI (nI g.elems.length) 0) (some (db false)) (bd (F166.s FUEL (p0.at 0).i g) fun o=>(bd (match D.eqv ty eqDepth o p0 (.struct [28,3,9,3,3,30]) with | some z=>some (.bool (!z)) | none=>none) fun p=>(cond p.b (some (db false)) (cond (eqI (p0.at 0).i 1) (goS (st9 M) M ⟨1,(db true),g,(nI g.elems.length),0,p0⟩ fun x=>match x with | .e0 j m q r u f=>(cond m.b (cond (eqI (f.at 0).i 7) (bd (F167.s FUEL (f.at 3).i 0 1099511627776) fun w=>(cond w.b (bd (F167.s FUEL (f.at 4).i j 600) fun y=>(some y)) (some (db false)))) (bd (F167.s FUEL (f.at 1).i 1 1099511627776) fun A=>(cond A.b (bd (F167.s FUEL (f.at 3).i 0 1099511627776) fun B=>(cond B.b (bd (F167.s FUEL (f.at 4).i j 600) fun C=>(some C)) (some (db false)))) (some (db false))))) (some (db false)))) (goS (st9 M) M ⟨0,(db true),g,(nI g.elems.length),0,p0⟩ fun x=>match x with | .e0 j m q r u f=>(cond m.b (cond (eqI (f.at 0).i 7) (bd (F167.s FUEL (f.at 3).i 0 1099511627776) fun E=>(cond E.b (bd (F167.s FUEL (f.at 4).i j 600) fun F=>(some F)) (some (db false)))) (bd (F167.s FUEL (f.at 1).i 1 1099511627776) fun G=>(cond G.b (bd (F167.s FUEL (f.at 3).i 0 1099511627776) fun I=>(cond I.b (bd (F167.s FUEL (f.at 4).i j 600) fun J=>(some J)) (some (db false)))) (some (db false))))) (some (db false))))))))))
theorem run (M:Nat) (p0:D):callS (e M) (tblOf (t M)) 12 (.fn 107) [.d (.struct [28,3,9,3,3,30]) p0] [] (fun v H=>finish ty [4] v H)=s M p0:=by kernel_rfl
def c:Con:={ run:=fun ds=>match ds with | [p0]=>s FUEL p0 | _=>none,plain:=true }
theorem ok:ConOk (107,c):=mkC Tryz.f107 [(.struct [28,3,9,3,3,30])] [4] (by kernel_rfl) (by kernel_rfl) (by kernel_rfl) (by kernel_rfl) (allCons F108.ok (allCons F164.ok (allCons F166.ok (allCons F167.ok allNil)))) allNil (t_ok FUEL) fun a=>run FUEL a.1
end F107
namespace F90
def cons:List (Nat×Con):=[]
def exts:List (Nat×Ext):=[]
def h:List (Nat×Nat×Hint):=[(90,3,{ live:=[0,3],rows:=[(3,5)],out:=some [0,3] })]
noncomputable def e (M:Nat):Env:=env cons exts h M
structure S3 where
 (i1:Int) (n2 n3:Nat) (b4:Bool) (l5:List D)
inductive X3 where
 | e0 (f:Int) (g j:Nat) (m:Bool) (o:List D)
def st3 (M:Nat):S3→(S3→Option D)→(X3→Option D)→Option D
 | ⟨f,j,g,m,o⟩,rec,K=>(cond (geI f 128) (cond (mx (g+1)) (rec ⟨(shrI .i64 f 7),0,(g+1),(m||true),(ap ((o.drop j).take g) [(D.int .u8 (orI .u8 (cv .u8 f) 128))])⟩) none) (K (.e0 f j g m o)))
def ex3 (k:Kont):X3→Option D
 | .e0 f g j m o=>k (.exit 0) ((vi f)::(us 2 ((.sref 0 g j)::(us 19 [])))) [(.row 5 true m o)]
def lv3:S3→List Leaf
 | ⟨f,g,j,m,o⟩=>[.i f,.n g,.n j,.b m,.l o]
def of3:List Leaf→Option S3
 | [.i f,.n g,.n j,.b m,.l o]=>some ⟨f,g,j,m,o⟩
 | _=>none
def ps3:List PV:=((.d (.int .i64) (.int .i64))::(up 2 ((.sref 0)::(up 19 []))))
def qs3:List PO:=[(.row 5 true)]
noncomputable def t (M:Nat):List Ent:=⟨90,11,0,3,sumS [0,3] ps3 qs3 [(3,0)] of3 (st3 M) ex3 M⟩::[]
theorem t_ok (M:Nat):AllOk (e M) (tblOf (t M)):=AllOk.addS (n0:=1) (lv:=lv3) AllOk.nil (by kernel_rfl) rfl (by intro ls s h;unfold of3 at h;(repeat' split at h)<;>simp at h;subst h;rfl) (by intro s;kernel_rfl) (by intro s;kernel_rfl) (by intro s nx k;kernel_rfl)
def s (M:Nat) (p0:Int):Option D:=
 (goS (st3 M) M ⟨(mini (maxi p0 0) 1125899906842624),0,0,false,[]⟩ fun x=>match x with | .e0 g j f o m=>(cond (mx (f+1)) (some (dS (ofBytes (((ap ((m.drop j).take f) [(D.int .u8 (cv .u8 g))]).drop 0).take (f+1))))) none))
theorem run (M:Nat) (p0:Int):callS (e M) (tblOf (t M)) 12 (.fn 90) [.d (.int .i64) (di p0)] [] (fun v H=>finish ty [9] v H)=s M p0:=by kernel_rfl
def c:Con:={ run:=fun ds=>match ds with | [p0]=>s FUEL p0.i | _=>none,plain:=true }
theorem ok:ConOk (90,c):=mkC Tryz.f90 [(.int .i64)] [9] (by kernel_rfl) (by kernel_rfl) (by kernel_rfl) (by kernel_rfl) allNil allNil (t_ok FUEL) fun a=>run FUEL a.1
end F90
namespace F57
def cons:List (Nat×Con):=[(90,F90.c)]
def exts:List (Nat×Ext):=[]
def h:List (Nat×Nat×Hint):=[]
noncomputable def e (M:Nat):Env:=env cons exts h M
def s (M:Nat) (p0:ByteArray):Option D:=
 (bd (F90.s FUEL (nI p0.size)) fun f=>(bd (cat f.s p0) fun g=>(some g)))
theorem run (M:Nat) (p0:ByteArray):callS (e M) (tblOf []) 12 (.fn 57) [.d .str (dS p0)] [] (fun v H=>finish ty [9] v H)=s M p0:=by kernel_rfl
def c:Con:={ run:=fun ds=>match ds with | [p0]=>s FUEL p0.s | _=>none,plain:=true }
theorem ok:ConOk (57,c):=mkC Tryz.f57 [.str] [9] (by kernel_rfl) (by kernel_rfl) (by kernel_rfl) (by kernel_rfl) (allCons F90.ok allNil) allNil AllOk.nil fun a=>run FUEL a.1
end F57
namespace F286
def cons:List (Nat×Con):=[(57,F57.c)]
def exts:List (Nat×Ext):=[]
def h:List (Nat×Nat×Hint):=[]
noncomputable def e (M:Nat):Env:=env cons exts h M
def s (M:Nat) (p0:ByteArray):Option D:=
 (bd (F57.s FUEL p0) fun f=>(some f))
theorem run (M:Nat) (p0:ByteArray):callS (e M) (tblOf []) 12 (.fn 286) [.d .str (dS p0)] [] (fun v H=>finish ty [9] v H)=s M p0:=by kernel_rfl
def c:Con:={ run:=fun ds=>match ds with | [p0]=>s FUEL p0.s | _=>none,plain:=true }
theorem ok:ConOk (286,c):=mkC Tryz.f286 [.str] [9] (by kernel_rfl) (by kernel_rfl) (by kernel_rfl) (by kernel_rfl) (allCons F57.ok allNil) allNil AllOk.nil fun a=>run FUEL a.1
end F286
namespace F288
def cons:List (Nat×Con):=[(90,F90.c)]
def exts:List (Nat×Ext):=[]
def h:List (Nat×Nat×Hint):=[]
noncomputable def e (M:Nat):Env:=env cons exts h M
def s (M:Nat) (p0:Int):Option D:=
 (bd (F90.s FUEL p0) fun f=>(some f))
theorem run (M:Nat) (p0:Int):callS (e M) (tblOf []) 12 (.fn 288) [.d (.int .i64) (di p0)] [] (fun v H=>finish ty [9] v H)=s M p0:=by kernel_rfl
def c:Con:={ run:=fun ds=>match ds with | [p0]=>s FUEL p0.i | _=>none,plain:=true }
theorem ok:ConOk (288,c):=mkC Tryz.f288 [(.int .i64)] [9] (by kernel_rfl) (by kernel_rfl) (by kernel_rfl) (by kernel_rfl) (allCons F90.ok allNil) allNil AllOk.nil fun a=>run FUEL a.1
end F288
namespace F91
def cons:List (Nat×Con):=[]
def exts:List (Nat×Ext):=[]
def h:List (Nat×Nat×Hint):=[(91,0,{ own:=true })]
noncomputable def e (M:Nat):Env:=env cons exts h M
def s (M:Nat) (p0:D):Option D:=
 (cond (Nat.beq p0.parts.length 32) (cond (true&&true&&true&&(Nat.beq p0.parts.length 32)) (some (dS (ofBytes ((p0.parts.drop 0).take 32)))) none) none)
theorem run (M:Nat) (p0:D):callS (e M) (tblOf []) 12 (.fn 91) [.d (.array 32 5) p0] [] (fun v H=>finish ty [9] v H)=s M p0:=by kernel_rfl
def c:Con:={ run:=fun ds=>match ds with | [p0]=>s FUEL p0 | _=>none,plain:=true }
theorem ok:ConOk (91,c):=mkC Tryz.f91 [(.array 32 5)] [9] (by kernel_rfl) (by kernel_rfl) (by kernel_rfl) (by kernel_rfl) allNil allNil AllOk.nil fun a=>run FUEL a.1
end F91
namespace F290
def cons:List (Nat×Con):=[(91,F91.c)]
def exts:List (Nat×Ext):=[]
def h:List (Nat×Nat×Hint):=[]
noncomputable def e (M:Nat):Env:=env cons exts h M
def s (M:Nat) (p0:D):Option D:=
 (bd (F91.s FUEL p0) fun f=>(some f))
theorem run (M:Nat) (p0:D):callS (e M) (tblOf []) 12 (.fn 290) [.d (.array 32 5) p0] [] (fun v H=>finish ty [9] v H)=s M p0:=by kernel_rfl
def c:Con:={ run:=fun ds=>match ds with | [p0]=>s FUEL p0 | _=>none,plain:=true }
theorem ok:ConOk (290,c):=mkC Tryz.f290 [(.array 32 5)] [9] (by kernel_rfl) (by kernel_rfl) (by kernel_rfl) (by kernel_rfl) (allCons F91.ok allNil) allNil AllOk.nil fun a=>run FUEL a.1
end F290
namespace F55
def k0_:K:=(.struct [28,3,9,3,3,30])
def cons:List (Nat×Con):=[(90,F90.c),(107,F107.c),(108,F108.c),(286,F286.c),(288,F288.c),(290,F290.c)]
def exts:List (Nat×Ext):=[]
def h:List (Nat×Nat×Hint):=[(55,5,{ live:=[4,14,15,16],out:=some [4] })]
noncomputable def e (M:Nat):Env:=env cons exts h M
structure S5 where
 (d4 d5:D) (i6 i7:Int) (d8:D)
inductive X5 where
 | e0 (f g:D)
def st5 (M:Nat):S5→(S5→Option D)→(X5→Option D)→Option D
 | ⟨j,g,m,f,o⟩,rec,K=>(cond (ltI f m) (cond (inb f g.elems.length) (bd (bif isT 246 (ix g.elems f.toNat) then (F286.s FUEL (payload (ix g.elems f.toNat)).s) else (bif isT 249 (ix g.elems f.toNat) then (F288.s FUEL (payload (ix g.elems f.toNat)).i) else (bif isT 250 (ix g.elems f.toNat) then (F290.s FUEL (payload (ix g.elems f.toNat))) else none))) fun p=>(bd (cat j.s p.s) fun q=>(rec ⟨q,g,m,(ad .i64 f 1),o⟩))) none) (K (.e0 j o)))
def ex5 (k:Kont):X5→Option D
 | .e0 f g=>k (.exit 0) ((us 4 ((vk .str f)::(us 21 [])))) [(.var k0_ (vk k0_ g))]
def lv5:S5→List Leaf
 | ⟨f,g,j,m,o⟩=>[.d f,.d g,.i j,.i m,.d o]
def of5:List Leaf→Option S5
 | [.d f,.d g,.i j,.i m,.d o]=>some ⟨f,g,j,m,o⟩
 | _=>none
def ps5:List PV:=((up 4 ((.d .str .x)::(up 9 ((.d (.slice 183) .x)::(.d (.int .i64) (.int .i64))::(.d (.int .i64) (.int .i64))::(up 9 []))))))
def qs5:List PO:=[(.var k0_ (.d k0_ .x))]
noncomputable def t (M:Nat):List Ent:=⟨55,11,0,5,sumS [4,14,15,16] ps5 qs5 [] of5 (st5 M) ex5 M⟩::[]
theorem t_ok (M:Nat):AllOk (e M) (tblOf (t M)):=AllOk.addS (n0:=1) (lv:=lv5) AllOk.nil (by kernel_rfl) rfl (by intro ls s h;unfold of5 at h;(repeat' split at h)<;>simp at h;subst h;rfl) (by intro s;kernel_rfl) (by intro s;kernel_rfl) (by intro s nx k;kernel_rfl)
def s (M:Nat) (p0:D):Option D:=
 (bd (F107.s FUEL p0) fun g=>(cond (!g.b) (some (D.tup [(dS (bs [])),(db false)])) (bd (F90.s FUEL (p0.at 0).i) fun j=>(bd (F108.s FUEL p0) fun f=>(goS (st5 M) M ⟨j,f,(nI f.elems.length),0,p0⟩ fun x=>match x with | .e0 m o=>(some (D.tup [m,(db true)])))))))
theorem run (M:Nat) (p0:D):callS (e M) (tblOf (t M)) 12 (.fn 55) [.d (.struct [28,3,9,3,3,30]) p0] [] (fun v H=>finish ty [9,4] v H)=s M p0:=by kernel_rfl
def c:Con:={ run:=fun ds=>match ds with | [p0]=>s FUEL p0 | _=>none,plain:=true }
theorem ok:ConOk (55,c):=mkC Tryz.f55 [(.struct [28,3,9,3,3,30])] [9,4] (by kernel_rfl) (by kernel_rfl) (by kernel_rfl) (by kernel_rfl) (allCons F90.ok (allCons F107.ok (allCons F108.ok (allCons F286.ok (allCons F288.ok (allCons F290.ok allNil)))))) allNil (t_ok FUEL) fun a=>run FUEL a.1
end F55
namespace F60
def k0_:K:=(.struct [111,108])
def k1_:K:=(.struct [22,3,3])
def k2_:K:=(.struct [3,9,9,4,3,66])
def cons:List (Nat×Con):=[(57,F57.c),(90,F90.c)]
def exts:List (Nat×Ext):=[(62,stringX (.struct [111,108])),(109,copyCheckX (.struct [111,108]) 5)]
def h:List (Nat×Nat×Hint):=[(60,5,{ live:=[5,6,25,26,27],rows:=[(1056769,5)],out:=some [5] }),(60,14,{ live:=[5,6,25,26,27,55,56,57],rows:=[(1056769,5)],out:=some [5,6,25,26,27] }),(111,1,{ unr:=some 8 })]
def q0_:PO:=(.var k1_ (.d k1_ .x))
noncomputable def e (M:Nat):Env:=env cons exts h M
structure S14 where
 (d19:D) (i20 i21:Int) (d22:D) (i23 i24:Int) (d25:D) (n26 n27:Nat) (d28:D) (b29:Bool) (l30:List D)
inductive X14 where
 | e0 (f:D) (g j:Int) (m:D) (o p:Nat) (q:D) (r:Bool) (u:List D)
def st14 (M:Nat):S14→(S14→Option D)→(X14→Option D)→Option D
 | ⟨o,p,q,m,r,f,u,w,g,y,A,B⟩,rec,K=>(cond (ltI f r) (cond (inb f m.elems.length) (bd (F57.s FUEL (ix m.elems f.toNat).s) fun j=>(cond (mx (g+(bytesOf j.s).length)) (rec ⟨o,p,q,m,r,(ad .i64 f 1),u,0,(g+(bytesOf j.s).length),y,(A||(!(bytesOf j.s).isEmpty)),(ap ((B.drop w).take g) (bytesOf j.s))⟩) none)) none) (K (.e0 o p q u w g y A B)))
def ex14 (k:Kont):X14→Option D
 | .e0 f g j m o p q r u=>k (.exit 2) ((us 5 ((.ptr 1 [] k0_)::(.func (.func 111) [] [(.ptr 1 [] k0_)])::(us 18 ((vk (.slice 68) f)::(vi g)::(vi j)::(us 39 [])))))) [(.var k1_ (vk k1_ m)),(.var k0_ (.agg k0_ [(.ptr 1 [] k0_),(.sref 12 o p)])),.dead,.dead,.dead,.dead,(.var k2_ (vk k2_ q)),.dead,.dead,.dead,.dead,.dead,(.row 5 true r u)]
def lv14:S14→List Leaf
 | ⟨f,g,j,m,o,p,q,r,u,w,y,A⟩=>[.d f,.i g,.i j,.d m,.i o,.i p,.d q,.n r,.n u,.d w,.b y,.l A]
def of14:List Leaf→Option S14
 | [.d f,.i g,.i j,.d m,.i o,.i p,.d q,.n r,.n u,.d w,.b y,.l A]=>some ⟨f,g,j,m,o,p,q,r,u,w,y,A⟩
 | _=>none
def ps14:List PV:=((up 5 ((.ptr 1 [] k0_)::(.func 111 [] [(.ptr 1 [] k0_)])::(up 18 ((.d (.slice 68) .x)::(.d (.int .i64) (.int .i64))::(.d (.int .i64) (.int .i64))::(up 27 ((.d (.slice 9) .x)::(.d (.int .i64) (.int .i64))::(.d (.int .i64) (.int .i64))::(up 9 []))))))))
def qs14:List PO:=[q0_,(.var k0_ (.agg k0_ [(.ptr 1 [] k0_),(.sref 12)])),.dead,.dead,.dead,.dead,(.var k2_ (.d k2_ .x)),.dead,.dead,.dead,.dead,.dead,(.row 5 true)]
noncomputable def t1 (M:Nat):List Ent:=⟨60,11,0,14,sumS [5,6,25,26,27,55,56,57] ps14 qs14 [(1056769,12)] of14 (st14 M) ex14 M⟩::[]
theorem t1_ok (M:Nat):AllOk (e M) (tblOf (t1 M)):=AllOk.addS (n0:=13) (lv:=lv14) AllOk.nil (by kernel_rfl) rfl (by intro ls s h;unfold of14 at h;(repeat' split at h)<;>simp at h;subst h;rfl) (by intro s;kernel_rfl) (by intro s;kernel_rfl) (by intro s nx k;kernel_rfl)
structure S5 where
 (d5:D) (i6 i7:Int) (d8:D) (n9 n10:Nat) (b11:Bool) (l12:List D)
inductive X5 where
 | e0 (f:D) (g j:Nat) (m:Bool) (o:List D)
def st5 (M:Nat):S5→(S5→Option D)→(X5→Option D)→Option D
 | ⟨o,C,m,E,F,g,G,I⟩,rec,K=>(cond (ltI m C) (cond (inb m o.elems.length) (bd (F90.s FUEL ((ix o.elems m.toNat).at 0).i) fun f=>(cond (mx (g+(bytesOf f.s).length)) (bd (F57.s FUEL ((ix o.elems m.toNat).at 1).s) fun j=>(cond (mx ((g+(bytesOf f.s).length)+(bytesOf j.s).length)) (cond ((ix o.elems m.toNat).at 3).b (bd (F90.s FUEL 1) fun p=>(cond (mx (((g+(bytesOf f.s).length)+(bytesOf j.s).length)+(bytesOf p.s).length)) (bd (F90.s FUEL ((ix o.elems m.toNat).at 4).i) fun r=>(cond (mx ((((g+(bytesOf f.s).length)+(bytesOf j.s).length)+(bytesOf p.s).length)+(bytesOf r.s).length)) (bd (F90.s FUEL (nI ((ix o.elems m.toNat).at 2).s.size)) fun w=>(cond (mx (((((g+(bytesOf f.s).length)+(bytesOf j.s).length)+(bytesOf p.s).length)+(bytesOf r.s).length)+(bytesOf w.s).length)) (bd (F90.s FUEL (nI ((ix o.elems m.toNat).at 5).elems.length)) fun A=>(cond (mx ((((((g+(bytesOf f.s).length)+(bytesOf j.s).length)+(bytesOf p.s).length)+(bytesOf r.s).length)+(bytesOf w.s).length)+(bytesOf A.s).length)) (goS (st14 M) M ⟨o,C,m,((ix o.elems m.toNat).at 5),(nI ((ix o.elems m.toNat).at 5).elems.length),0,E,0,((((((g+(bytesOf f.s).length)+(bytesOf j.s).length)+(bytesOf p.s).length)+(bytesOf r.s).length)+(bytesOf w.s).length)+(bytesOf A.s).length),(ix o.elems m.toNat),((((((G||(!(bytesOf f.s).isEmpty))||(!(bytesOf j.s).isEmpty))||(!(bytesOf p.s).isEmpty))||(!(bytesOf r.s).isEmpty))||(!(bytesOf w.s).isEmpty))||(!(bytesOf A.s).isEmpty)),(ap (((ap (((ap (((ap (((ap (((ap ((I.drop F).take g) (bytesOf f.s)).drop 0).take (g+(bytesOf f.s).length)) (bytesOf j.s)).drop 0).take ((g+(bytesOf f.s).length)+(bytesOf j.s).length)) (bytesOf p.s)).drop 0).take (((g+(bytesOf f.s).length)+(bytesOf j.s).length)+(bytesOf p.s).length)) (bytesOf r.s)).drop 0).take ((((g+(bytesOf f.s).length)+(bytesOf j.s).length)+(bytesOf p.s).length)+(bytesOf r.s).length)) (bytesOf w.s)).drop 0).take (((((g+(bytesOf f.s).length)+(bytesOf j.s).length)+(bytesOf p.s).length)+(bytesOf r.s).length)+(bytesOf w.s).length)) (bytesOf A.s))⟩ fun x=>match x with | .e0 J L N O P Q T R S=>(rec ⟨J,L,(ad .i64 N 1),O,P,Q,R,S⟩)) none)) none)) none)) none)) (bd (F90.s FUEL 0) fun q=>(cond (mx (((g+(bytesOf f.s).length)+(bytesOf j.s).length)+(bytesOf q.s).length)) (bd (F90.s FUEL ((ix o.elems m.toNat).at 4).i) fun u=>(cond (mx ((((g+(bytesOf f.s).length)+(bytesOf j.s).length)+(bytesOf q.s).length)+(bytesOf u.s).length)) (bd (F90.s FUEL (nI ((ix o.elems m.toNat).at 2).s.size)) fun y=>(cond (mx (((((g+(bytesOf f.s).length)+(bytesOf j.s).length)+(bytesOf q.s).length)+(bytesOf u.s).length)+(bytesOf y.s).length)) (bd (F90.s FUEL (nI ((ix o.elems m.toNat).at 5).elems.length)) fun B=>(cond (mx ((((((g+(bytesOf f.s).length)+(bytesOf j.s).length)+(bytesOf q.s).length)+(bytesOf u.s).length)+(bytesOf y.s).length)+(bytesOf B.s).length)) (goS (st14 M) M ⟨o,C,m,((ix o.elems m.toNat).at 5),(nI ((ix o.elems m.toNat).at 5).elems.length),0,E,0,((((((g+(bytesOf f.s).length)+(bytesOf j.s).length)+(bytesOf q.s).length)+(bytesOf u.s).length)+(bytesOf y.s).length)+(bytesOf B.s).length),(ix o.elems m.toNat),((((((G||(!(bytesOf f.s).isEmpty))||(!(bytesOf j.s).isEmpty))||(!(bytesOf q.s).isEmpty))||(!(bytesOf u.s).isEmpty))||(!(bytesOf y.s).isEmpty))||(!(bytesOf B.s).isEmpty)),(ap (((ap (((ap (((ap (((ap (((ap ((I.drop F).take g) (bytesOf f.s)).drop 0).take (g+(bytesOf f.s).length)) (bytesOf j.s)).drop 0).take ((g+(bytesOf f.s).length)+(bytesOf j.s).length)) (bytesOf q.s)).drop 0).take (((g+(bytesOf f.s).length)+(bytesOf j.s).length)+(bytesOf q.s).length)) (bytesOf u.s)).drop 0).take ((((g+(bytesOf f.s).length)+(bytesOf j.s).length)+(bytesOf q.s).length)+(bytesOf u.s).length)) (bytesOf y.s)).drop 0).take (((((g+(bytesOf f.s).length)+(bytesOf j.s).length)+(bytesOf q.s).length)+(bytesOf u.s).length)+(bytesOf y.s).length)) (bytesOf B.s))⟩ fun x=>match x with | .e0 J L N O P Q T R S=>(rec ⟨J,L,(ad .i64 N 1),O,P,Q,R,S⟩)) none)) none)) none)) none))) none)) none)) none) (K (.e0 E F g G I)))
def ex5 (k:Kont):X5→Option D
 | .e0 f g j m o=>k (.exit 0) ((us 5 ((.ptr 1 [] k0_)::(us 61 [])))) [(.var k1_ (vk k1_ f)),(.var k0_ (.agg k0_ [(.ptr 1 [] k0_),(.sref 5 g j)])),.dead,.dead,.dead,(.row 5 true m o)]
def lv5:S5→List Leaf
 | ⟨f,g,j,m,o,p,q,r⟩=>[.d f,.i g,.i j,.d m,.n o,.n p,.b q,.l r]
def of5:List Leaf→Option S5
 | [.d f,.i g,.i j,.d m,.n o,.n p,.b q,.l r]=>some ⟨f,g,j,m,o,p,q,r⟩
 | _=>none
def ps5:List PV:=((up 5 ((.ptr 1 [] k0_)::(.func 111 [] [(.ptr 1 [] k0_)])::(up 18 ((.d (.slice 68) .x)::(.d (.int .i64) (.int .i64))::(.d (.int .i64) (.int .i64))::(up 39 []))))))
def qs5:List PO:=[q0_,(.var k0_ (.agg k0_ [(.ptr 1 [] k0_),(.sref 5)])),.dead,.dead,.dead,(.row 5 true)]
noncomputable def t (M:Nat):List Ent:=⟨60,11,0,5,sumS [5,6,25,26,27] ps5 qs5 [(1056769,5)] of5 (st5 M) ex5 M⟩::t1 M
theorem t_ok (M:Nat):AllOk (e M) (tblOf (t M)):=AllOk.addS (n0:=6) (lv:=lv5) (t1_ok M) (by kernel_rfl) rfl (by intro ls s h;unfold of5 at h;(repeat' split at h)<;>simp at h;subst h;rfl) (by intro s;kernel_rfl) (by intro s;kernel_rfl) (by intro s nx k;kernel_rfl)
def s (M:Nat) (p0:D) (p1:Int):Option D:=
 (bd (F90.s FUEL (p0.at 1).i) fun f=>(cond (mx (bytesOf f.s).length) (bd (F90.s FUEL (p0.at 2).i) fun g=>(cond (mx ((bytesOf f.s).length+(bytesOf g.s).length)) (bd (F90.s FUEL (nI (p0.at 0).elems.length)) fun j=>(cond (mx (((bytesOf f.s).length+(bytesOf g.s).length)+(bytesOf j.s).length)) (bd (F90.s FUEL p1) fun m=>(cond (mx ((((bytesOf f.s).length+(bytesOf g.s).length)+(bytesOf j.s).length)+(bytesOf m.s).length)) (goS (st5 M) M ⟨(p0.at 0),(nI (p0.at 0).elems.length),0,p0,0,((((bytesOf f.s).length+(bytesOf g.s).length)+(bytesOf j.s).length)+(bytesOf m.s).length),((((!(bytesOf f.s).isEmpty)||(!(bytesOf g.s).isEmpty))||(!(bytesOf j.s).isEmpty))||(!(bytesOf m.s).isEmpty)),(ap (((ap (((ap (((bytesOf f.s).drop 0).take (bytesOf f.s).length) (bytesOf g.s)).drop 0).take ((bytesOf f.s).length+(bytesOf g.s).length)) (bytesOf j.s)).drop 0).take (((bytesOf f.s).length+(bytesOf g.s).length)+(bytesOf j.s).length)) (bytesOf m.s))⟩ fun x=>match x with | .e0 u p o q r=>(cond (true&&((bif q then (decide (0<o)) else true)&&(mx o))) (some (dS (ofBytes ((r.drop p).take o)))) none)) none)) none)) none)) none))
theorem run (M:Nat) (p0:D) (p1:Int):callS (e M) (tblOf (t M)) 12 (.fn 60) [.d (.struct [22,3,3]) p0,.d (.int .i64) (di p1)] [] (fun v H=>finish ty [9] v H)=s M p0 p1:=by kernel_rfl
def c:Con:={ run:=fun ds=>match ds with | [p0,p1]=>s FUEL p0 p1.i | _=>none,plain:=true }
theorem ok:ConOk (60,c):=mkC Tryz.f60 [(.struct [22,3,3]),(.int .i64)] [9] (by kernel_rfl) (by kernel_rfl) (by kernel_rfl) (by kernel_rfl) (allCons F57.ok (allCons F90.ok allNil)) (allCons string_ok (allCons copyCheck_ok allNil)) (t_ok FUEL) fun a=>run FUEL a.1 a.2.1
end F60
end Go.AM.SY
namespace Go.AM
open Go
def plainC:Code→Bool
 | .skip=>true
 | .ret=>true
 | .seq a b=>plainC a&&plainC b
 | .cond _ a b=>plainC a&&plainC b
 | .region _ _ o=>!o
 | _=>false
def noInl:Inl D:=fun _ _ _ _=>none
theorem noInl_le (inl:Inl D):InlLe noInl inl:=fun _ _ _ _ _ _=>Le.none
section
variable {E:Env} {f:Nat} {tbl:Nat→Option Sum}
theorem evT_mono {inl inl':Inl D} (hi:InlLe inl inl'):∀(c:Code),plainC c=true→∀(regs:List V) (H:List AObj) (k k':Kont),(∀e r h,Le (k e r h) (k' e r h))→Le (evT false E inl f tbl c regs H k) (evT false E inl' f tbl c regs H k'):=by
 intro c
 induction c with
 | skip=>intro _ regs H k k' h;exact h .normal regs H
 | ret=>intro _ regs H k k' h;exact h .ret regs H
 | seq a b iha ihb=>
  intro hc regs H k k' h
  simp only[plainC,Bool.and_eq_true] at hc
  simp only[evT]
  refine iha hc.1 _ _ _ _ fun e r h'=>?_
  cases e with
  | normal=>exact ihb hc.2 _ _ _ _ h
  | ret=>exact h _ _ _
  | exit id=>exact h _ _ _
 | cond c a b iha ihb=>
  intro hc regs H k k' h
  simp only[plainC,Bool.and_eq_true] at hc
  simp only[evT]
  split
  ·split
   ·exact iha hc.1 _ _ _ _ h
   ·exact ihb hc.2 _ _ _ _ h
  ·exact Le.refl _
 | region id ops o=>
  intro hc regs H k k' h
  cases o with
  | true=>simp[plainC] at hc
  | false=>
   simp only[evT]
   exact evOps_le hi (fun r h'=>h .normal r h') _ _ _
 | _=>intro hc;simp[plainC] at hc
theorem evT_assoc {rd:Bool} {inl:Inl D} (a b c:Code) (regs:List V) (H:List AObj) (k:Kont):evT rd E inl f tbl (.seq a (.seq b c)) regs H k=evT rd E inl f tbl (.seq (.seq a b) c) regs H k:=by
 simp only[evT]
theorem stage {inl:Inl D} {A C:Code} {regs:List V} {H:List AObj} {k K1:Kont} {X:Option D} (hp:plainC A=true) (h1:evT false E noInl f tbl A regs H K1=X)
  (h2:∀e r h,Le (K1 e r h) (match e with | .normal=>evT false E inl f tbl C r h k | .ret=>k .ret r h | .exit id=>k (.exit id) r h)):Le X (evT false E inl f tbl (.seq A C) regs H k):=by
 subst h1
 simp only[evT]
 exact evT_mono (noInl_le inl) A hp _ _ _ _ h2
end
def lookS:List (Nat×V)→Nat→V→V
 | [],_,v=>v
 | p::l,i,v=>bif Nat.beq i p.1 then p.2 else lookS l i v
def SL (n:Nat) (f:Nat→V) (l:List (Nat×V)):List V:=(List.range n).map fun i=>lookS l i (f i)
theorem lookS_of (r:List V) (i:Nat):∀l:List (Nat×V),(∀p∈l,r.getD p.1 .undef=p.2)→lookS l i (r.getD i .undef)=r.getD i .undef
 | [],_=>rfl
 | p::l,h=>by
  simp only[lookS]
  cases hb:Nat.beq i p.1
  ·exact lookS_of r i l (fun q hq=>h q (List.mem_cons_of_mem _ hq))
  ·rw[Nat.eq_of_beq_eq_true hb];exact(h p (by simp)).symm
theorem SL_of {n:Nat} {r:List V} (hr:r.length=n) {l:List (Nat×V)} (h:∀p∈l,r.getD p.1 .undef=p.2):r=SL n (fun i=>r.getD i .undef) l:=by
 refine List.ext_getElem (by simp[SL,hr]) ?_
 intro i h1 h2
 simp only[SL,List.getElem_map,List.getElem_range]
 rw[lookS_of r i l h,List.getD_eq_getElem?_getD,List.getElem?_eq_getElem h1];rfl
open Classical in
noncomputable def gate {α:Type} (n:Nat) (Lv:α→List V) (Hv:α→List AObj) (T:α→Option D) (e:AExit) (m:Nat) (L:List V) (h:List AObj):Option D:=
 if hx:∃a,e = .normal∧m=n∧L=Lv a∧h=Hv a then T hx.choose else none
theorem gate_eq {α:Type} {n:Nat} {Lv:α→List V} {Hv:α→List AObj} {T:α→Option D} (inj:∀a b,Lv a=Lv b→Hv a=Hv b→a=b) (a:α):gate n Lv Hv T .normal n (Lv a) (Hv a)=T a:=by
 have hx:∃b,AExit.normal=AExit.normal∧n=n∧Lv a=Lv b∧Hv a=Hv b:=⟨a,rfl,rfl,rfl,rfl⟩
 unfold gate
 rw[dif_pos hx]
 have:=hx.choose_spec
 rw[←inj a _ this.2.2.1 this.2.2.2]
theorem gate_le {α:Type} {n:Nat} {Lv:α→List V} {Hv:α→List AObj} {T:α→Option D} {e:AExit} {m:Nat} {L:List V} {h:List AObj} {X:Option D}
  (h0:∀a,e = .normal→m=n→L=Lv a→h=Hv a→Le (T a) X):Le (gate n Lv Hv T e m L h) X:=by
 unfold gate
 split
 ·rename_i hx
  obtain⟨h1,h2,h3,h4⟩:=hx.choose_spec
  exact h0 _ h1 h2 h3 h4
 ·exact Le.none
end Go.AM
namespace Go.AM.SY
open Go Go.AM Go.Proofs Go.RowKit
namespace F17
def k0_:K:=(.struct [111,108])
def k1_:K:=(.struct [22,3,3])
def k2_:K:=(.struct [28,3,9,3,3,30])
def k3_:K:=(.struct [3,9,9,4,3,66])
def cons:List (Nat×Con):=[(52,F52.c),(53,F53.c),(55,F55.c),(57,F57.c),(60,F60.c)]
def exts:List (Nat×Ext):=[(62,stringX (.struct [111,108])),(109,copyCheckX (.struct [111,108]) 5)]
def h:List (Nat×Nat×Hint):=[(17,6,{ live:=[1,2,3,6,7,9,40,41,42],rows:=[(1056769,5)],out:=some [1,2,3,6,7,9] }),(17,14,{ perm:=[0,2,1,3,4,5] }),(17,16,{ live:=[2,6,7,14,70,71,72],rows:=[(1048586,19922993)],out:=some [6,7,14] }),(17,20,{ live:=[14] }),(61,3,{ live:=[2] }),(78,2,{ live:=[0,1,7,8],out:=some [4] }),(110,1,{ live:=[0,1,2,3,4,6],rows:=[(1048583,49),(1048591,18874417),(1048586,27263025)],out:=some [] })]
def o0_:AObj:=(.loop .ready 17 20 (.tup ((us 14 ((.ptr 10 [] (.slice 49))::(us 80 []))))))
def o1_:AObj:=(.loop .ready 61 3 (.tup ((us 2 ((.ptr 15 [] (.slice 49))::(us 10 []))))))
def o2_:AObj:=(.loop .ready 61 3 (.tup ((us 2 ((.ptr 7 [] (.slice 49))::(us 10 []))))))
def q0_:PO:=(.var k0_ (.agg k0_ [(.ptr 1 [] k0_),(.sref 2)]))
def q1_:PO:=(.var k0_ (.agg k0_ [(.d (.ptr 113) .nilPtr),(.sref 2)]))
def q2_:PO:=(.loop false 17 20 (.tup ((up 14 ((.ptr 10 [] (.slice 49))::(up 80 []))))))
def q3_:PO:=(.loop false 61 3 (.tup ((up 2 ((.ptr 15 [] (.slice 49))::(up 10 []))))))
def q4_:PO:=(.loop false 61 3 (.tup ((up 2 ((.ptr 7 [] (.slice 49))::(up 10 []))))))
def q5_:PO:=(.var k3_ (.d k3_ .x))
def q6_:PO:=(.var k1_ (.d k1_ .x))
def q7_:PO:=(.var (.int .i64) (.d (.int .i64) (.int .i64)))
noncomputable def e (M:Nat):Env:=env cons exts h M
structure S78_2 where
 (d2:D) (i3 i4:Int) (d5:D)
inductive X78_2 where
 | e0 (f:Int) (g:D)
 | e1 (f:D)
def st78_2 (M:Nat):S78_2→(S78_2→Option D)→(X78_2→Option D)→Option D
 | ⟨g,m,f,j⟩,rec,K=>(cond (ltI f m) (cond (inb f g.elems.length) (bd (F52.s FUEL (ix g.elems f.toNat)) fun o=>(cond o.b (K (.e0 f j)) (rec ⟨g,m,(ad .i64 f 1),j⟩))) none) (K (.e1 j)))
def ex78_2 (k:Kont):X78_2→Option D
 | .e0 f g=>k .ret ((us 4 ((vi f)::(us 14 [])))) [(.var k1_ (vk k1_ g))]
 | .e1 f=>k (.exit 0) ((us 19 [])) [(.var k1_ (vk k1_ f))]
def lv78_2:S78_2→List Leaf
 | ⟨f,g,j,m⟩=>[.d f,.i g,.i j,.d m]
def of78_2:List Leaf→Option S78_2
 | [.d f,.i g,.i j,.d m]=>some ⟨f,g,j,m⟩
 | _=>none
def ps78_2:List PV:=((.d (.slice 68) .x)::(.d .func (.fn 52))::(up 5 ((.d (.int .i64) (.int .i64))::(.d (.int .i64) (.int .i64))::(up 10 []))))
def qs78_2:List PO:=[q6_]
noncomputable def t1 (M:Nat):List Ent:=⟨78,9,1,2,sumS [0,1,7,8] ps78_2 qs78_2 [] of78_2 (st78_2 M) ex78_2 M⟩::[]
theorem t1_ok (M:Nat):AllOk (e M) (tblOf (t1 M)):=AllOk.addS (n0:=1) (lv:=lv78_2) AllOk.nil (by kernel_rfl) rfl (by intro ls s h;unfold of78_2 at h;(repeat' split at h)<;>simp at h;subst h;rfl) (by intro s;kernel_rfl) (by intro s;kernel_rfl) (by intro s nx k;kernel_rfl)
inductive S6 where
 | s0 (f:D) (g:Int) (j:Bool) (m:List D) (o:Bool) (p:D) (q r:Int) (u:D) (w y:Nat) (z:Bool) (A:List D)
 | s1 (f:D) (g:Int) (j:Bool) (m:List D) (o:Bool) (p:D) (q r:Int) (u:D) (w y:Nat) (z:Bool) (A:List D)
inductive X6 where
 | e0 (f:D) (g:Int) (j:D) (m:Int) (o:D) (p q:Nat) (r:Bool) (u:List D)
 | e1 (f:D) (g:Int) (j:Bool) (m:List D) (o:Bool) (p:D) (q r:Nat) (u:Bool) (w:List D)
 | e2 (f:D) (g:Int) (j:D) (m:Int) (o:D) (p q:Nat) (r:Bool) (u:List D)
 | e3 (f:D) (g:Int) (j:Bool) (m:List D) (o:Bool) (p:D) (q r:Nat) (u:Bool) (w:List D)
def st6 (M:Nat):S6→(S6→Option D)→(X6→Option D)→Option D
 | .s0 o p y z A j B f q r g u w,rec,K=>(cond (ltI f B) (cond (inb f j.elems.length) (bd (F55.s FUEL (ix j.elems f.toNat)) fun C=>(cond (!(C.at 1).b) (K (.e0 o p j f q r g u w)) (bd (F57.s FUEL (C.at 0).s) fun m=>(cond (mx (g+(bytesOf m.s).length)) (rec (.s1 o p y z A j B (ad .i64 f 1) q 0 (g+(bytesOf m.s).length) (u||(!(bytesOf m.s).isEmpty)) (ap ((w.drop r).take g) (bytesOf m.s)))) none)))) none) (K (.e1 o p y z A q r g u w)))
 | .s1 o p y z A j B f q r g u w,rec,K=>(cond (ltI f B) (cond (inb f j.elems.length) (bd (F55.s FUEL (ix j.elems f.toNat)) fun C=>(cond (!(C.at 1).b) (K (.e2 o p j f q r g u w)) (bd (F57.s FUEL (C.at 0).s) fun m=>(cond (mx (g+(bytesOf m.s).length)) (rec (.s1 o p y z A j B (ad .i64 f 1) q 0 (g+(bytesOf m.s).length) (u||(!(bytesOf m.s).isEmpty)) (ap ((w.drop r).take g) (bytesOf m.s)))) none)))) none) (K (.e3 o p y z A q r g u w)))
def ex6 (k:Kont):X6→Option D
 | .e0 f g j m o p q r u=>k .ret ((us 1 ((vk (.slice 32) f)::(vi g)::(.ptr 0 [] k1_)::(us 2 ((vk (.slice 49) (dl false []))::(vb false)::(us 1 ((.ptr 1 [] k0_)::(us 85 [])))))))) [(.var k1_ (vk k1_ o)),(.var k0_ (.agg k0_ [(vk (.ptr 113) D.nilPtr),(.sref 2 p q)])),(.row 5 true r u),(.var k2_ (vk k2_ (ix j.elems m.toNat)))]
 | .e1 f g j m o p q r u w=>k (.exit 0) ((us 1 ((vk (.slice 32) f)::(vi g)::(.ptr 0 [] k1_)::(us 2 ((vk (.slice 49) (dl j m))::(vb o)::(us 1 ((.ptr 1 [] k0_)::(us 85 [])))))))) [(.var k1_ (vk k1_ p)),(.var k0_ (.agg k0_ [(vk (.ptr 113) D.nilPtr),(.sref 2 q r)])),(.row 5 true u w)]
 | .e2 f g j m o p q r u=>k .ret ((us 1 ((vk (.slice 32) f)::(vi g)::(.ptr 0 [] k1_)::(us 2 ((vk (.slice 49) (dl false []))::(vb false)::(us 1 ((.ptr 1 [] k0_)::(us 85 [])))))))) [(.var k1_ (vk k1_ o)),(.var k0_ (.agg k0_ [(.ptr 1 [] k0_),(.sref 2 p q)])),(.row 5 true r u),(.var k2_ (vk k2_ (ix j.elems m.toNat)))]
 | .e3 f g j m o p q r u w=>k (.exit 0) ((us 1 ((vk (.slice 32) f)::(vi g)::(.ptr 0 [] k1_)::(us 2 ((vk (.slice 49) (dl j m))::(vb o)::(us 1 ((.ptr 1 [] k0_)::(us 85 [])))))))) [(.var k1_ (vk k1_ p)),(.var k0_ (.agg k0_ [(.ptr 1 [] k0_),(.sref 2 q r)])),(.row 5 true u w)]
def of6_0:List Leaf→Option S6
 | [.d f,.i g,.b j,.l m,.b o,.d p,.i q,.i r,.d u,.n w,.n y,.b z,.l A]=>some (.s0 f g j m o p q r u w y z A)
 | _=>none
def ps6_0:List PV:=((up 1 ((.d (.slice 32) .x)::(.d (.int .i64) (.int .i64))::(.ptr 0 [] k1_)::(up 2 ((.d (.slice 49) .slice)::(.d .bool .bool)::(up 1 ((.ptr 1 [] k0_)::(up 30 ((.d (.slice 32) .x)::(.d (.int .i64) (.int .i64))::(.d (.int .i64) (.int .i64))::(up 52 []))))))))))
def qs6_0:List PO:=[q6_,q1_,(.row 5 true)]
def of6_1:List Leaf→Option S6
 | [.d f,.i g,.b j,.l m,.b o,.d p,.i q,.i r,.d u,.n w,.n y,.b z,.l A]=>some (.s1 f g j m o p q r u w y z A)
 | _=>none
def ps6_1:List PV:=((up 1 ((.d (.slice 32) .x)::(.d (.int .i64) (.int .i64))::(.ptr 0 [] k1_)::(up 2 ((.d (.slice 49) .slice)::(.d .bool .bool)::(up 1 ((.ptr 1 [] k0_)::(up 30 ((.d (.slice 32) .x)::(.d (.int .i64) (.int .i64))::(.d (.int .i64) (.int .i64))::(up 52 []))))))))))
def qs6_1:List PO:=[q6_,q0_,(.row 5 true)]
def vv6:S6→List V×List AObj
 | .s0 f g j m o p q r u w y z A=>((fillVs ps6_0 [.d f,.i g,.b j,.l m,.b o,.d p,.i q,.i r,.d u,.n w,.n y,.b z,.l A]).1,(fillOs qs6_0 (fillVs ps6_0 [.d f,.i g,.b j,.l m,.b o,.d p,.i q,.i r,.d u,.n w,.n y,.b z,.l A]).2).1)
 | .s1 f g j m o p q r u w y z A=>((fillVs ps6_1 [.d f,.i g,.b j,.l m,.b o,.d p,.i q,.i r,.d u,.n w,.n y,.b z,.l A]).1,(fillOs qs6_1 (fillVs ps6_1 [.d f,.i g,.b j,.l m,.b o,.d p,.i q,.i r,.d u,.n w,.n y,.b z,.l A]).2).1)
noncomputable def su6 (M:Nat):Sum:=sumJ [1,2,3,6,7,9,40,41,42] [⟨ps6_0,qs6_0,of6_0⟩,⟨ps6_1,qs6_1,of6_1⟩] [(1056769,2)] (st6 M) ex6 M noSum
noncomputable def t2 (M:Nat):List Ent:=⟨17,11,0,6,su6 M⟩::t1 M
theorem t2_ok (M:Nat):AllOk (e M) (tblOf (t2 M)):=AllOk.addJ (n0:=3) (t1_ok M) (fun s=>(vv6 s).1) (fun s=>(vv6 s).2) (by kernel_rfl) rfl (.inl rfl) ⟨by intro ls s h;replace h:of6_0 ls=some s:=h;unfold of6_0 at h;(repeat' split at h)<;>simp at h;subst h;exact⟨by kernel_rfl,by kernel_rfl⟩,by intro ls s h;replace h:of6_1 ls=some s:=h;unfold of6_1 at h;(repeat' split at h)<;>simp at h;subst h;exact⟨by kernel_rfl,by kernel_rfl⟩,trivial⟩ (by intro s;cases s<;>kernel_rfl) (by intro s;cases s<;>kernel_rfl) (by intro s nx k;cases s<;>kernel_rfl)
structure S110_1 where
 (i53:Int) (d54:D) (n55 n56:Nat) (b57:Bool) (l58:List D) (d59:D) (i60 i61 i62:Int) (n63 n64:Nat) (b65:Bool) (l66:List D)
inductive X110_1 where
 | e0 (f:D) (g j:Nat) (m:Bool) (o:List D) (p:D) (q r u:Int) (w y:Nat) (z:Bool) (A:List D)
def st110_1 (M:Nat):S110_1→(S110_1→Option D)→(X110_1→Option D)→Option D
 | ⟨p,q,r,u,w,y,f,g,m,o,z,j,A,B⟩,rec,K=>(cond (gtI (nI f.s.size) 0) (cond (true&&(leI 0 (mini g (nI f.s.size)))&&(leI (mini g (nI f.s.size)) (nI f.s.size))&&(leI (nI f.s.size) (nI f.s.size))) (cond (mx (j+1)) (cond ((leI 0 (mini g (nI f.s.size)))&&(leI (mini g (nI f.s.size)) (nI f.s.size))&&(leI (nI f.s.size) (nI f.s.size))&&(leI (nI f.s.size) (nI f.s.size))) (rec ⟨(ad .i64 p 1),q,r,u,w,y,(dS (f.s.extract (mini g (nI f.s.size)).toNat f.s.size)),g,m,o,0,(j+1),(A||true),(ap ((B.drop z).take j) [(da [(di (ad .i64 o p)),(di m),(dS (f.s.extract 0 (mini g (nI f.s.size)).toNat))])])⟩) none) none) none) (K (.e0 q r u w y f g m o z j A B)))
def ex110_1 (k:Kont):X110_1→Option D
 | .e0 f g j m o p q r u w y z A=>k (.exit 0) ((us 31 [])) [(.var k1_ (vk k1_ f)),(.var k0_ (.agg k0_ [(vk (.ptr 113) D.nilPtr),(.sref 2 g j)])),(.row 5 true m o),(.var .str (vk .str p)),(.var (.int .i64) (vi q)),(.var (.int .i64) (vi r)),(.var (.int .i64) (vi u)),(.var (.slice 49) (.sref 9 w y)),o2_,(.row 49 true z A)]
def of110_1_0:List Leaf→Option S110_1
 | [.i f,.d g,.n j,.n m,.b o,.l p,.d q,.i r,.i u,.i w,.n y,.n z,.b A,.l B]=>some ⟨f,g,j,m,o,p,q,r,u,w,y,z,A,B⟩
 | _=>none
def ps110_1_0:List PV:=((.yield 8)::(.ptr 3 [] .str)::(.ptr 4 [] (.int .i64))::(.ptr 6 [] (.int .i64))::(.ptr 5 [] (.int .i64))::(up 1 ((.d (.int .i64) (.int .i64))::(up 24 []))))
def qs110_1_0:List PO:=[q6_,q1_,(.row 5 true),(.var .str (.d .str .x)),q7_,q7_,q7_,(.var (.slice 49) (.sref 9)),q4_,(.row 49 true)]
def vv110_1:S110_1→List V×List AObj
 | ⟨f,g,j,m,o,p,q,r,u,w,y,z,A,B⟩=>((fillVs ps110_1_0 [.i f,.d g,.n j,.n m,.b o,.l p,.d q,.i r,.i u,.i w,.n y,.n z,.b A,.l B]).1,(fillOs qs110_1_0 (fillVs ps110_1_0 [.i f,.d g,.n j,.n m,.b o,.l p,.d q,.i r,.i u,.i w,.n y,.n z,.b A,.l B]).2).1)
noncomputable def su110_1 (M:Nat):Sum:=sumJ [0,1,2,3,4,6] [⟨ps110_1_0,qs110_1_0,of110_1_0⟩] [(1048583,9)] (st110_1 M) ex110_1 M noSum
noncomputable def t3 (M:Nat):List Ent:=⟨110,8,9,1,su110_1 M⟩::t2 M
theorem t3_ok (M:Nat):AllOk (e M) (tblOf (t3 M)):=AllOk.addJ (n0:=10) (t2_ok M) (fun s=>(vv110_1 s).1) (fun s=>(vv110_1 s).2) (by kernel_rfl) rfl (.inl rfl) ⟨by intro ls s h;replace h:of110_1_0 ls=some s:=h;unfold of110_1_0 at h;(repeat' split at h)<;>simp at h;subst h;exact⟨by kernel_rfl,by kernel_rfl⟩,trivial⟩ (by intro s;kernel_rfl) (by intro s;kernel_rfl) (by intro s nx k;kernel_rfl)
structure S110_1_9_17 where
 (i67:Int) (d68:D) (n69 n70:Nat) (d71:D) (i72 i73 i74:Int) (n75 n76 n77 n78:Nat) (s79:ByteArray) (i80 i81 i82:Int) (n83 n84:Nat) (b85:Bool) (l86:List D)
inductive X110_1_9_17 where
 | e0 (f:D) (g j:Nat) (m:D) (o p q:Int) (r u w y:Nat) (z:ByteArray) (A B C:Int) (E F:Nat) (G:Bool) (I:List D)
def st110_1_9_17 (M:Nat):S110_1_9_17→(S110_1_9_17→Option D)→(X110_1_9_17→Option D)→Option D
 | ⟨p,q,r,u,w,y,z,A,B,C,E,F,f,g,m,o,G,j,I,J⟩,rec,K=>(cond (gtI (nI f.size) 0) (cond (true&&(leI 0 (mini g (nI f.size)))&&(leI (mini g (nI f.size)) (nI f.size))&&(leI (nI f.size) (nI f.size))) (cond (mx (j+1)) (cond ((leI 0 (mini g (nI f.size)))&&(leI (mini g (nI f.size)) (nI f.size))&&(leI (nI f.size) (nI f.size))&&(leI (nI f.size) (nI f.size))) (rec ⟨(ad .i64 p 1),q,r,u,w,y,z,A,B,C,E,F,(f.extract (mini g (nI f.size)).toNat f.size),g,m,o,0,(j+1),(I||true),(ap ((J.drop G).take j) [(da [(di (ad .i64 o p)),(di m),(dS (f.extract 0 (mini g (nI f.size)).toNat))])])⟩) none) none) none) (K (.e0 q r u w y z A B C E F f g m o G j I J)))
def ex110_1_9_17 (k:Kont):X110_1_9_17→Option D
 | .e0 f g j m o p q r u w y z A B C E F G I=>k (.exit 0) ((us 31 [])) [(.var k1_ (vk k1_ f)),(.var k0_ (.agg k0_ [(vk (.ptr 113) D.nilPtr),(.sref 2 g j)])),.dead,(.var .str (vk .str m)),(.var (.int .i64) (vi o)),(.var (.int .i64) (vi p)),(.var (.int .i64) (vi q)),(.var (.slice 49) (.sref 9 r u)),.dead,.dead,(.var (.slice 49) (.sref 9 w y)),(.var .str (vS z)),(.var (.int .i64) (vi A)),(.var (.int .i64) (vi B)),(.var (.int .i64) (vi C)),(.var (.slice 49) (.sref 17 E F)),o1_,(.row 49 true G I)]
def of110_1_9_17_0:List Leaf→Option S110_1_9_17
 | [.i f,.d g,.n j,.n m,.d o,.i p,.i q,.i r,.n u,.n w,.n y,.n z,.s A,.i B,.i C,.i E,.n F,.n G,.b I,.l J]=>some ⟨f,g,j,m,o,p,q,r,u,w,y,z,A,B,C,E,F,G,I,J⟩
 | _=>none
def ps110_1_9_17_0:List PV:=((.yield 16)::(.ptr 11 [] .str)::(.ptr 12 [] (.int .i64))::(.ptr 14 [] (.int .i64))::(.ptr 13 [] (.int .i64))::(up 1 ((.d (.int .i64) (.int .i64))::(up 24 []))))
def qs110_1_9_17_0:List PO:=[q6_,q1_,.dead,(.var .str (.d .str .x)),q7_,q7_,q7_,(.var (.slice 49) (.sref 9)),.dead,.dead,(.var (.slice 49) (.sref 9)),(.var .str (.d .str .str)),q7_,q7_,q7_,(.var (.slice 49) (.sref 17)),q3_,(.row 49 true)]
def vv110_1_9_17:S110_1_9_17→List V×List AObj
 | ⟨f,g,j,m,o,p,q,r,u,w,y,z,A,B,C,E,F,G,I,J⟩=>((fillVs ps110_1_9_17_0 [.i f,.d g,.n j,.n m,.d o,.i p,.i q,.i r,.n u,.n w,.n y,.n z,.s A,.i B,.i C,.i E,.n F,.n G,.b I,.l J]).1,(fillOs qs110_1_9_17_0 (fillVs ps110_1_9_17_0 [.i f,.d g,.n j,.n m,.d o,.i p,.i q,.i r,.n u,.n w,.n y,.n z,.s A,.i B,.i C,.i E,.n F,.n G,.b I,.l J]).2).1)
noncomputable def su110_1_9_17 (M:Nat):Sum:=sumJ [0,1,2,3,4,6] [⟨ps110_1_9_17_0,qs110_1_9_17_0,of110_1_9_17_0⟩] [(1048583,9),(1048591,17)] (st110_1_9_17 M) ex110_1_9_17 M noSum
noncomputable def t4 (M:Nat):List Ent:=⟨110,9,17,1,su110_1_9_17 M⟩::t3 M
theorem t4_ok (M:Nat):AllOk (e M) (tblOf (t4 M)):=AllOk.addJ (n0:=18) (t3_ok M) (fun s=>(vv110_1_9_17 s).1) (fun s=>(vv110_1_9_17 s).2) (by kernel_rfl) rfl (.inl rfl) ⟨by intro ls s h;replace h:of110_1_9_17_0 ls=some s:=h;unfold of110_1_9_17_0 at h;(repeat' split at h)<;>simp at h;subst h;exact⟨by kernel_rfl,by kernel_rfl⟩,trivial⟩ (by intro s;kernel_rfl) (by intro s;kernel_rfl) (by intro s nx k;kernel_rfl)
structure S110_1_10_25 where
 (i113:Int) (d114:D) (n115 n116:Nat) (d117:D) (i118 i119 i120:Int) (n121 n122 n123 n124:Nat) (s125:ByteArray) (i126 i127 i128:Int) (n129 n130:Nat) (d131 d132:D) (i133:Int) (d134:D) (i135:Int) (b136:Bool) (l137:List D)
inductive X110_1_10_25 where
 | e0 (f:D) (g j:Nat) (m:D) (o p q:Int) (r u w y:Nat) (z:ByteArray) (A B C:Int) (E F:Nat) (G I:D) (J:Int) (L:D) (N:Int) (O:Bool) (P:List D)
def st110_1_10_25 (M:Nat):S110_1_10_25→(S110_1_10_25→Option D)→(X110_1_10_25→Option D)→Option D
 | ⟨p,q,r,u,w,y,z,A,B,C,E,j,F,G,I,J,L,N,O,f,g,m,o,P,Q⟩,rec,K=>(cond (gtI (nI f.s.size) 0) (cond (true&&(leI 0 (mini g (nI f.s.size)))&&(leI (mini g (nI f.s.size)) (nI f.s.size))&&(leI (nI f.s.size) (nI f.s.size))) (cond (mx (j+1)) (cond ((leI 0 (mini g (nI f.s.size)))&&(leI (mini g (nI f.s.size)) (nI f.s.size))&&(leI (nI f.s.size) (nI f.s.size))&&(leI (nI f.s.size) (nI f.s.size))) (rec ⟨(ad .i64 p 1),q,r,u,w,y,z,A,B,C,0,(j+1),F,G,I,J,L,N,O,(dS (f.s.extract (mini g (nI f.s.size)).toNat f.s.size)),g,m,o,(P||true),(ap ((Q.drop E).take j) [(da [(di (ad .i64 o p)),m,(dS (f.s.extract 0 (mini g (nI f.s.size)).toNat))])])⟩) none) none) none) (K (.e0 q r u w y z A B C E j F G I J L N O f g m o P Q)))
def ex110_1_10_25 (k:Kont):X110_1_10_25→Option D
 | .e0 f g j m o p q r u w y z A B C E F G I J L N O P=>k (.exit 0) ((us 31 [])) [(.var k1_ (vk k1_ f)),(.var k0_ (.agg k0_ [(vk (.ptr 113) D.nilPtr),(.sref 2 g j)])),.dead,(.var .str (vk .str m)),(.var (.int .i64) (vi o)),(.var (.int .i64) (vi p)),(.var (.int .i64) (vi q)),(.var (.slice 49) (.sref 9 r u)),.dead,.dead,(.var (.slice 49) (.sref 25 w y)),(.var .str (vS z)),(.var (.int .i64) (vi A)),(.var (.int .i64) (vi B)),(.var (.int .i64) (vi C)),(.var (.slice 49) (.sref 17 E F)),.dead,.dead,.dead,(.var k3_ (vk k3_ G)),(.var .str (vk .str I)),(.var (.int .i64) (vi J)),(.var (.int .i64) (vk (.int .i64) L)),(.var (.int .i64) (vi N)),o0_,(.row 49 true O P)]
def of110_1_10_25_0:List Leaf→Option S110_1_10_25
 | [.i f,.d g,.n j,.n m,.d o,.i p,.i q,.i r,.n u,.n w,.n y,.n z,.s A,.i B,.i C,.i E,.n F,.n G,.d I,.d J,.i L,.d N,.i O,.b P,.l Q]=>some ⟨f,g,j,m,o,p,q,r,u,w,y,z,A,B,C,E,F,G,I,J,L,N,O,P,Q⟩
 | _=>none
def ps110_1_10_25_0:List PV:=((.yield 24)::(.ptr 20 [] .str)::(.ptr 21 [] (.int .i64))::(.ptr 23 [] (.int .i64))::(.ptr 22 [] (.int .i64))::(up 1 ((.d (.int .i64) (.int .i64))::(up 24 []))))
def qs110_1_10_25_0:List PO:=[q6_,q1_,.dead,(.var .str (.d .str .x)),q7_,q7_,q7_,(.var (.slice 49) (.sref 9)),.dead,.dead,(.var (.slice 49) (.sref 25)),(.var .str (.d .str .str)),q7_,q7_,q7_,(.var (.slice 49) (.sref 17)),.dead,.dead,.dead,q5_,(.var .str (.d .str .x)),q7_,(.var (.int .i64) (.d (.int .i64) .x)),q7_,q2_,(.row 49 true)]
def vv110_1_10_25:S110_1_10_25→List V×List AObj
 | ⟨f,g,j,m,o,p,q,r,u,w,y,z,A,B,C,E,F,G,I,J,L,N,O,P,Q⟩=>((fillVs ps110_1_10_25_0 [.i f,.d g,.n j,.n m,.d o,.i p,.i q,.i r,.n u,.n w,.n y,.n z,.s A,.i B,.i C,.i E,.n F,.n G,.d I,.d J,.i L,.d N,.i O,.b P,.l Q]).1,(fillOs qs110_1_10_25_0 (fillVs ps110_1_10_25_0 [.i f,.d g,.n j,.n m,.d o,.i p,.i q,.i r,.n u,.n w,.n y,.n z,.s A,.i B,.i C,.i E,.n F,.n G,.d I,.d J,.i L,.d N,.i O,.b P,.l Q]).2).1)
noncomputable def su110_1_10_25 (M:Nat):Sum:=sumJ [0,1,2,3,4,6] [⟨ps110_1_10_25_0,qs110_1_10_25_0,of110_1_10_25_0⟩] [(1048583,9),(1048586,25)] (st110_1_10_25 M) ex110_1_10_25 M noSum
noncomputable def t5 (M:Nat):List Ent:=⟨110,10,25,1,su110_1_10_25 M⟩::t4 M
theorem t5_ok (M:Nat):AllOk (e M) (tblOf (t5 M)):=AllOk.addJ (n0:=26) (t4_ok M) (fun s=>(vv110_1_10_25 s).1) (fun s=>(vv110_1_10_25 s).2) (by kernel_rfl) rfl (.inl rfl) ⟨by intro ls s h;replace h:of110_1_10_25_0 ls=some s:=h;unfold of110_1_10_25_0 at h;(repeat' split at h)<;>simp at h;subst h;exact⟨by kernel_rfl,by kernel_rfl⟩,trivial⟩ (by intro s;kernel_rfl) (by intro s;kernel_rfl) (by intro s nx k;kernel_rfl)
structure S16 where
 (i87:Int) (b88:Bool) (l89:List D) (b90:Bool) (d91:D) (i92 i93:Int) (d94:D) (n95 n96:Nat) (d97:D) (i98 i99 i100:Int) (n101 n102 n103 n104:Nat) (s105:ByteArray) (i106 i107 i108:Int) (n109 n110:Nat) (b111:Bool) (l112:List D)
inductive X16 where
 | e0 (f:Bool) (g:List D) (j:Bool) (m:D) (o p:Nat) (q:D) (r u w:Int) (y z A B:Nat) (C:ByteArray) (E F G:Int) (I J:Nat) (L:Bool) (N:List D)
def st16 (M:Nat):S16→(S16→Option D)→(X16→Option D)→Option D
 | ⟨j,m,o,p,g,q,f,r,u,w,y,z,A,B,C,E,F,G,I,J,L,N,O,P,Q,R⟩,rec,K=>(cond (ltI f q) (cond (inb f g.elems.length) (goS (st110_1_10_25 M) M ⟨0,r,u,w,y,z,A,B,C,E,F,G,I,J,L,N,O,P,(ix g.elems f.toNat),((ix g.elems f.toNat).at 2),j,((ix g.elems f.toNat).at 0),(ml .i64 4096 ((ix g.elems f.toNat).at 0).i),Q,R⟩ fun x=>match x with | .e0 S T U W X Y Z aa ab ac ae af ag ah ai aj ak an ao aq ar au al am=>(rec ⟨j,m,o,p,g,q,(ad .i64 f 1),S,T,U,W,X,Y,Z,aa,ab,ac,ae,af,ag,ah,ai,aj,ak,al,am⟩)) none) (K (.e0 m o p r u w y z A B C E F G I J L N O P Q R)))
def ex16 (k:Kont):X16→Option D
 | .e0 f g j m o p q r u w y z A B C E F G I J L N=>k (.exit 2) ((us 6 ((vk (.slice 49) (dl f g))::(vb j)::(us 6 ((.ptr 10 [] (.slice 49))::(us 80 [])))))) [(.var k1_ (vk k1_ m)),(.var k0_ (.agg k0_ [(vk (.ptr 113) D.nilPtr),(.sref 2 o p)])),.dead,(.var .str (vk .str q)),(.var (.int .i64) (vi r)),(.var (.int .i64) (vi u)),(.var (.int .i64) (vi w)),(.var (.slice 49) (.sref 9 y z)),.dead,.dead,(.var (.slice 49) (.sref 18 A B)),(.var .str (vS C)),(.var (.int .i64) (vi E)),(.var (.int .i64) (vi F)),(.var (.int .i64) (vi G)),(.var (.slice 49) (.sref 17 I J)),.dead,.dead,(.row 49 true L N)]
def of16_0:List Leaf→Option S16
 | [.i f,.b g,.l j,.b m,.d o,.i p,.i q,.d r,.n u,.n w,.d y,.i z,.i A,.i B,.n C,.n E,.n F,.n G,.s I,.i J,.i L,.i N,.n O,.n P,.b Q,.l R]=>some ⟨f,g,j,m,o,p,q,r,u,w,y,z,A,B,C,E,F,G,I,J,L,N,O,P,Q,R⟩
 | _=>none
def ps16_0:List PV:=((up 2 ((.d (.int .i64) (.int .i64))::(up 3 ((.d (.slice 49) .slice)::(.d .bool .bool)::(up 6 ((.ptr 10 [] (.slice 49))::(up 55 ((.d (.slice 68) .x)::(.d (.int .i64) (.int .i64))::(.d (.int .i64) (.int .i64))::(up 22 []))))))))))
def qs16_0:List PO:=[q6_,q1_,.dead,(.var .str (.d .str .x)),q7_,q7_,q7_,(.var (.slice 49) (.sref 9)),.dead,.dead,(.var (.slice 49) (.sref 18)),(.var .str (.d .str .str)),q7_,q7_,q7_,(.var (.slice 49) (.sref 17)),.dead,.dead,(.row 49 true)]
def vv16:S16→List V×List AObj
 | ⟨f,g,j,m,o,p,q,r,u,w,y,z,A,B,C,E,F,G,I,J,L,N,O,P,Q,R⟩=>((fillVs ps16_0 [.i f,.b g,.l j,.b m,.d o,.i p,.i q,.d r,.n u,.n w,.d y,.i z,.i A,.i B,.n C,.n E,.n F,.n G,.s I,.i J,.i L,.i N,.n O,.n P,.b Q,.l R]).1,(fillOs qs16_0 (fillVs ps16_0 [.i f,.b g,.l j,.b m,.d o,.i p,.i q,.d r,.n u,.n w,.d y,.i z,.i A,.i B,.n C,.n E,.n F,.n G,.s I,.i J,.i L,.i N,.n O,.n P,.b Q,.l R]).2).1)
noncomputable def su16 (M:Nat):Sum:=sumJ [2,6,7,14,70,71,72] [⟨ps16_0,qs16_0,of16_0⟩] [(1048586,18)] (st16 M) ex16 M noSum
noncomputable def t6 (M:Nat):List Ent:=⟨17,11,0,16,su16 M⟩::t5 M
theorem t6_ok (M:Nat):AllOk (e M) (tblOf (t6 M)):=AllOk.addJ (n0:=19) (t5_ok M) (fun s=>(vv16 s).1) (fun s=>(vv16 s).2) (by kernel_rfl) rfl (.inl rfl) ⟨by intro ls s h;replace h:of16_0 ls=some s:=h;unfold of16_0 at h;(repeat' split at h)<;>simp at h;subst h;exact⟨by kernel_rfl,by kernel_rfl⟩,trivial⟩ (by intro s;kernel_rfl) (by intro s;kernel_rfl) (by intro s nx k;kernel_rfl)
structure S110_1_8_9 where
 (i139:Int) (d140:D) (n141 n142:Nat) (b143:Bool) (l144:List D) (d145:D) (i146 i147 i148:Int) (n149 n150:Nat) (b151:Bool) (l152:List D)
inductive X110_1_8_9 where
 | e0 (f:D) (g j:Nat) (m:Bool) (o:List D) (p:D) (q r u:Int) (w y:Nat) (z:Bool) (A:List D)
def st110_1_8_9 (M:Nat):S110_1_8_9→(S110_1_8_9→Option D)→(X110_1_8_9→Option D)→Option D
 | ⟨p,q,r,u,w,y,f,g,m,o,z,j,A,B⟩,rec,K=>(cond (gtI (nI f.s.size) 0) (cond (true&&(leI 0 (mini g (nI f.s.size)))&&(leI (mini g (nI f.s.size)) (nI f.s.size))&&(leI (nI f.s.size) (nI f.s.size))) (cond (mx (j+1)) (cond ((leI 0 (mini g (nI f.s.size)))&&(leI (mini g (nI f.s.size)) (nI f.s.size))&&(leI (nI f.s.size) (nI f.s.size))&&(leI (nI f.s.size) (nI f.s.size))) (rec ⟨(ad .i64 p 1),q,r,u,w,y,(dS (f.s.extract (mini g (nI f.s.size)).toNat f.s.size)),g,m,o,0,(j+1),(A||true),(ap ((B.drop z).take j) [(da [(di (ad .i64 o p)),(di m),(dS (f.s.extract 0 (mini g (nI f.s.size)).toNat))])])⟩) none) none) none) (K (.e0 q r u w y f g m o z j A B)))
def ex110_1_8_9 (k:Kont):X110_1_8_9→Option D
 | .e0 f g j m o p q r u w y z A=>k (.exit 0) ((us 31 [])) [(.var k1_ (vk k1_ f)),(.var k0_ (.agg k0_ [(.ptr 1 [] k0_),(.sref 2 g j)])),(.row 5 true m o),(.var .str (vk .str p)),(.var (.int .i64) (vi q)),(.var (.int .i64) (vi r)),(.var (.int .i64) (vi u)),(.var (.slice 49) (.sref 9 w y)),o2_,(.row 49 true z A)]
def of110_1_8_9_0:List Leaf→Option S110_1_8_9
 | [.i f,.d g,.n j,.n m,.b o,.l p,.d q,.i r,.i u,.i w,.n y,.n z,.b A,.l B]=>some ⟨f,g,j,m,o,p,q,r,u,w,y,z,A,B⟩
 | _=>none
def ps110_1_8_9_0:List PV:=((.yield 8)::(.ptr 3 [] .str)::(.ptr 4 [] (.int .i64))::(.ptr 6 [] (.int .i64))::(.ptr 5 [] (.int .i64))::(up 1 ((.d (.int .i64) (.int .i64))::(up 24 []))))
def qs110_1_8_9_0:List PO:=[q6_,q0_,(.row 5 true),(.var .str (.d .str .x)),q7_,q7_,q7_,(.var (.slice 49) (.sref 9)),q4_,(.row 49 true)]
def vv110_1_8_9:S110_1_8_9→List V×List AObj
 | ⟨f,g,j,m,o,p,q,r,u,w,y,z,A,B⟩=>((fillVs ps110_1_8_9_0 [.i f,.d g,.n j,.n m,.b o,.l p,.d q,.i r,.i u,.i w,.n y,.n z,.b A,.l B]).1,(fillOs qs110_1_8_9_0 (fillVs ps110_1_8_9_0 [.i f,.d g,.n j,.n m,.b o,.l p,.d q,.i r,.i u,.i w,.n y,.n z,.b A,.l B]).2).1)
noncomputable def su110_1_8_9 (M:Nat):Sum:=sumJ [0,1,2,3,4,6] [⟨ps110_1_8_9_0,qs110_1_8_9_0,of110_1_8_9_0⟩] [(1048583,9)] (st110_1_8_9 M) ex110_1_8_9 M (su110_1 M)
noncomputable def t7 (M:Nat):List Ent:=⟨110,8,9,1,su110_1_8_9 M⟩::t6 M
theorem t7_ok (M:Nat):AllOk (e M) (tblOf (t7 M)):=AllOk.addJ (n0:=10) (t6_ok M) (fun s=>(vv110_1_8_9 s).1) (fun s=>(vv110_1_8_9 s).2) (by kernel_rfl) rfl (.inr (by kernel_rfl)) ⟨by intro ls s h;replace h:of110_1_8_9_0 ls=some s:=h;unfold of110_1_8_9_0 at h;(repeat' split at h)<;>simp at h;subst h;exact⟨by kernel_rfl,by kernel_rfl⟩,trivial⟩ (by intro s;kernel_rfl) (by intro s;kernel_rfl) (by intro s nx k;kernel_rfl)
structure S110_1_9_17_w2 where
 (i153:Int) (d154:D) (n155 n156:Nat) (d157:D) (i158 i159 i160:Int) (n161 n162 n163 n164:Nat) (s165:ByteArray) (i166 i167 i168:Int) (n169 n170:Nat) (b171:Bool) (l172:List D)
inductive X110_1_9_17_w2 where
 | e0 (f:D) (g j:Nat) (m:D) (o p q:Int) (r u w y:Nat) (z:ByteArray) (A B C:Int) (E F:Nat) (G:Bool) (I:List D)
def st110_1_9_17_w2 (M:Nat):S110_1_9_17_w2→(S110_1_9_17_w2→Option D)→(X110_1_9_17_w2→Option D)→Option D
 | ⟨p,q,r,u,w,y,z,A,B,C,E,F,f,g,m,o,G,j,I,J⟩,rec,K=>(cond (gtI (nI f.size) 0) (cond (true&&(leI 0 (mini g (nI f.size)))&&(leI (mini g (nI f.size)) (nI f.size))&&(leI (nI f.size) (nI f.size))) (cond (mx (j+1)) (cond ((leI 0 (mini g (nI f.size)))&&(leI (mini g (nI f.size)) (nI f.size))&&(leI (nI f.size) (nI f.size))&&(leI (nI f.size) (nI f.size))) (rec ⟨(ad .i64 p 1),q,r,u,w,y,z,A,B,C,E,F,(f.extract (mini g (nI f.size)).toNat f.size),g,m,o,0,(j+1),(I||true),(ap ((J.drop G).take j) [(da [(di (ad .i64 o p)),(di m),(dS (f.extract 0 (mini g (nI f.size)).toNat))])])⟩) none) none) none) (K (.e0 q r u w y z A B C E F f g m o G j I J)))
def ex110_1_9_17_w2 (k:Kont):X110_1_9_17_w2→Option D
 | .e0 f g j m o p q r u w y z A B C E F G I=>k (.exit 0) ((us 31 [])) [(.var k1_ (vk k1_ f)),(.var k0_ (.agg k0_ [(.ptr 1 [] k0_),(.sref 2 g j)])),.dead,(.var .str (vk .str m)),(.var (.int .i64) (vi o)),(.var (.int .i64) (vi p)),(.var (.int .i64) (vi q)),(.var (.slice 49) (.sref 9 r u)),.dead,.dead,(.var (.slice 49) (.sref 9 w y)),(.var .str (vS z)),(.var (.int .i64) (vi A)),(.var (.int .i64) (vi B)),(.var (.int .i64) (vi C)),(.var (.slice 49) (.sref 17 E F)),o1_,(.row 49 true G I)]
def of110_1_9_17_w2_0:List Leaf→Option S110_1_9_17_w2
 | [.i f,.d g,.n j,.n m,.d o,.i p,.i q,.i r,.n u,.n w,.n y,.n z,.s A,.i B,.i C,.i E,.n F,.n G,.b I,.l J]=>some ⟨f,g,j,m,o,p,q,r,u,w,y,z,A,B,C,E,F,G,I,J⟩
 | _=>none
def ps110_1_9_17_w2_0:List PV:=((.yield 16)::(.ptr 11 [] .str)::(.ptr 12 [] (.int .i64))::(.ptr 14 [] (.int .i64))::(.ptr 13 [] (.int .i64))::(up 1 ((.d (.int .i64) (.int .i64))::(up 24 []))))
def qs110_1_9_17_w2_0:List PO:=[q6_,q0_,.dead,(.var .str (.d .str .x)),q7_,q7_,q7_,(.var (.slice 49) (.sref 9)),.dead,.dead,(.var (.slice 49) (.sref 9)),(.var .str (.d .str .str)),q7_,q7_,q7_,(.var (.slice 49) (.sref 17)),q3_,(.row 49 true)]
def vv110_1_9_17_w2:S110_1_9_17_w2→List V×List AObj
 | ⟨f,g,j,m,o,p,q,r,u,w,y,z,A,B,C,E,F,G,I,J⟩=>((fillVs ps110_1_9_17_w2_0 [.i f,.d g,.n j,.n m,.d o,.i p,.i q,.i r,.n u,.n w,.n y,.n z,.s A,.i B,.i C,.i E,.n F,.n G,.b I,.l J]).1,(fillOs qs110_1_9_17_w2_0 (fillVs ps110_1_9_17_w2_0 [.i f,.d g,.n j,.n m,.d o,.i p,.i q,.i r,.n u,.n w,.n y,.n z,.s A,.i B,.i C,.i E,.n F,.n G,.b I,.l J]).2).1)
noncomputable def su110_1_9_17_w2 (M:Nat):Sum:=sumJ [0,1,2,3,4,6] [⟨ps110_1_9_17_w2_0,qs110_1_9_17_w2_0,of110_1_9_17_w2_0⟩] [(1048583,9),(1048591,17)] (st110_1_9_17_w2 M) ex110_1_9_17_w2 M (su110_1_9_17 M)
noncomputable def t8 (M:Nat):List Ent:=⟨110,9,17,1,su110_1_9_17_w2 M⟩::t7 M
theorem t8_ok (M:Nat):AllOk (e M) (tblOf (t8 M)):=AllOk.addJ (n0:=18) (t7_ok M) (fun s=>(vv110_1_9_17_w2 s).1) (fun s=>(vv110_1_9_17_w2 s).2) (by kernel_rfl) rfl (.inr (by kernel_rfl)) ⟨by intro ls s h;replace h:of110_1_9_17_w2_0 ls=some s:=h;unfold of110_1_9_17_w2_0 at h;(repeat' split at h)<;>simp at h;subst h;exact⟨by kernel_rfl,by kernel_rfl⟩,trivial⟩ (by intro s;kernel_rfl) (by intro s;kernel_rfl) (by intro s nx k;kernel_rfl)
structure S110_1_10_25_w2 where
 (i199:Int) (d200:D) (n201 n202:Nat) (d203:D) (i204 i205 i206:Int) (n207 n208 n209 n210:Nat) (s211:ByteArray) (i212 i213 i214:Int) (n215 n216:Nat) (d217 d218:D) (i219:Int) (d220:D) (i221:Int) (b222:Bool) (l223:List D)
inductive X110_1_10_25_w2 where
 | e0 (f:D) (g j:Nat) (m:D) (o p q:Int) (r u w y:Nat) (z:ByteArray) (A B C:Int) (E F:Nat) (G I:D) (J:Int) (L:D) (N:Int) (O:Bool) (P:List D)
def st110_1_10_25_w2 (M:Nat):S110_1_10_25_w2→(S110_1_10_25_w2→Option D)→(X110_1_10_25_w2→Option D)→Option D
 | ⟨p,q,r,u,w,y,z,A,B,C,E,j,F,G,I,J,L,N,O,f,g,m,o,P,Q⟩,rec,K=>(cond (gtI (nI f.s.size) 0) (cond (true&&(leI 0 (mini g (nI f.s.size)))&&(leI (mini g (nI f.s.size)) (nI f.s.size))&&(leI (nI f.s.size) (nI f.s.size))) (cond (mx (j+1)) (cond ((leI 0 (mini g (nI f.s.size)))&&(leI (mini g (nI f.s.size)) (nI f.s.size))&&(leI (nI f.s.size) (nI f.s.size))&&(leI (nI f.s.size) (nI f.s.size))) (rec ⟨(ad .i64 p 1),q,r,u,w,y,z,A,B,C,0,(j+1),F,G,I,J,L,N,O,(dS (f.s.extract (mini g (nI f.s.size)).toNat f.s.size)),g,m,o,(P||true),(ap ((Q.drop E).take j) [(da [(di (ad .i64 o p)),m,(dS (f.s.extract 0 (mini g (nI f.s.size)).toNat))])])⟩) none) none) none) (K (.e0 q r u w y z A B C E j F G I J L N O f g m o P Q)))
def ex110_1_10_25_w2 (k:Kont):X110_1_10_25_w2→Option D
 | .e0 f g j m o p q r u w y z A B C E F G I J L N O P=>k (.exit 0) ((us 31 [])) [(.var k1_ (vk k1_ f)),(.var k0_ (.agg k0_ [(.ptr 1 [] k0_),(.sref 2 g j)])),.dead,(.var .str (vk .str m)),(.var (.int .i64) (vi o)),(.var (.int .i64) (vi p)),(.var (.int .i64) (vi q)),(.var (.slice 49) (.sref 9 r u)),.dead,.dead,(.var (.slice 49) (.sref 25 w y)),(.var .str (vS z)),(.var (.int .i64) (vi A)),(.var (.int .i64) (vi B)),(.var (.int .i64) (vi C)),(.var (.slice 49) (.sref 17 E F)),.dead,.dead,.dead,(.var k3_ (vk k3_ G)),(.var .str (vk .str I)),(.var (.int .i64) (vi J)),(.var (.int .i64) (vk (.int .i64) L)),(.var (.int .i64) (vi N)),o0_,(.row 49 true O P)]
def of110_1_10_25_w2_0:List Leaf→Option S110_1_10_25_w2
 | [.i f,.d g,.n j,.n m,.d o,.i p,.i q,.i r,.n u,.n w,.n y,.n z,.s A,.i B,.i C,.i E,.n F,.n G,.d I,.d J,.i L,.d N,.i O,.b P,.l Q]=>some ⟨f,g,j,m,o,p,q,r,u,w,y,z,A,B,C,E,F,G,I,J,L,N,O,P,Q⟩
 | _=>none
def ps110_1_10_25_w2_0:List PV:=((.yield 24)::(.ptr 20 [] .str)::(.ptr 21 [] (.int .i64))::(.ptr 23 [] (.int .i64))::(.ptr 22 [] (.int .i64))::(up 1 ((.d (.int .i64) (.int .i64))::(up 24 []))))
def qs110_1_10_25_w2_0:List PO:=[q6_,q0_,.dead,(.var .str (.d .str .x)),q7_,q7_,q7_,(.var (.slice 49) (.sref 9)),.dead,.dead,(.var (.slice 49) (.sref 25)),(.var .str (.d .str .str)),q7_,q7_,q7_,(.var (.slice 49) (.sref 17)),.dead,.dead,.dead,q5_,(.var .str (.d .str .x)),q7_,(.var (.int .i64) (.d (.int .i64) .x)),q7_,q2_,(.row 49 true)]
def vv110_1_10_25_w2:S110_1_10_25_w2→List V×List AObj
 | ⟨f,g,j,m,o,p,q,r,u,w,y,z,A,B,C,E,F,G,I,J,L,N,O,P,Q⟩=>((fillVs ps110_1_10_25_w2_0 [.i f,.d g,.n j,.n m,.d o,.i p,.i q,.i r,.n u,.n w,.n y,.n z,.s A,.i B,.i C,.i E,.n F,.n G,.d I,.d J,.i L,.d N,.i O,.b P,.l Q]).1,(fillOs qs110_1_10_25_w2_0 (fillVs ps110_1_10_25_w2_0 [.i f,.d g,.n j,.n m,.d o,.i p,.i q,.i r,.n u,.n w,.n y,.n z,.s A,.i B,.i C,.i E,.n F,.n G,.d I,.d J,.i L,.d N,.i O,.b P,.l Q]).2).1)
noncomputable def su110_1_10_25_w2 (M:Nat):Sum:=sumJ [0,1,2,3,4,6] [⟨ps110_1_10_25_w2_0,qs110_1_10_25_w2_0,of110_1_10_25_w2_0⟩] [(1048583,9),(1048586,25)] (st110_1_10_25_w2 M) ex110_1_10_25_w2 M (su110_1_10_25 M)
noncomputable def t9 (M:Nat):List Ent:=⟨110,10,25,1,su110_1_10_25_w2 M⟩::t8 M
theorem t9_ok (M:Nat):AllOk (e M) (tblOf (t9 M)):=AllOk.addJ (n0:=26) (t8_ok M) (fun s=>(vv110_1_10_25_w2 s).1) (fun s=>(vv110_1_10_25_w2 s).2) (by kernel_rfl) rfl (.inr (by kernel_rfl)) ⟨by intro ls s h;replace h:of110_1_10_25_w2_0 ls=some s:=h;unfold of110_1_10_25_w2_0 at h;(repeat' split at h)<;>simp at h;subst h;exact⟨by kernel_rfl,by kernel_rfl⟩,trivial⟩ (by intro s;kernel_rfl) (by intro s;kernel_rfl) (by intro s nx k;kernel_rfl)
structure S16_11_0 where
 (i173:Int) (b174:Bool) (l175:List D) (b176:Bool) (d177:D) (i178 i179:Int) (d180:D) (n181 n182:Nat) (d183:D) (i184 i185 i186:Int) (n187 n188 n189 n190:Nat) (s191:ByteArray) (i192 i193 i194:Int) (n195 n196:Nat) (b197:Bool) (l198:List D)
inductive X16_11_0 where
 | e0 (f:Bool) (g:List D) (j:Bool) (m:D) (o p:Nat) (q:D) (r u w:Int) (y z A B:Nat) (C:ByteArray) (E F G:Int) (I J:Nat) (L:Bool) (N:List D)
def st16_11_0 (M:Nat):S16_11_0→(S16_11_0→Option D)→(X16_11_0→Option D)→Option D
 | ⟨j,m,o,p,g,q,f,r,u,w,y,z,A,B,C,E,F,G,I,J,L,N,O,P,Q,R⟩,rec,K=>(cond (ltI f q) (cond (inb f g.elems.length) (goS (st110_1_10_25_w2 M) M ⟨0,r,u,w,y,z,A,B,C,E,F,G,I,J,L,N,O,P,(ix g.elems f.toNat),((ix g.elems f.toNat).at 2),j,((ix g.elems f.toNat).at 0),(ml .i64 4096 ((ix g.elems f.toNat).at 0).i),Q,R⟩ fun x=>match x with | .e0 S T U W X Y Z aa ab ac ae af ag ah ai aj ak an ao aq ar au al am=>(rec ⟨j,m,o,p,g,q,(ad .i64 f 1),S,T,U,W,X,Y,Z,aa,ab,ac,ae,af,ag,ah,ai,aj,ak,al,am⟩)) none) (K (.e0 m o p r u w y z A B C E F G I J L N O P Q R)))
def ex16_11_0 (k:Kont):X16_11_0→Option D
 | .e0 f g j m o p q r u w y z A B C E F G I J L N=>k (.exit 2) ((us 6 ((vk (.slice 49) (dl f g))::(vb j)::(us 6 ((.ptr 10 [] (.slice 49))::(us 80 [])))))) [(.var k1_ (vk k1_ m)),(.var k0_ (.agg k0_ [(.ptr 1 [] k0_),(.sref 2 o p)])),.dead,(.var .str (vk .str q)),(.var (.int .i64) (vi r)),(.var (.int .i64) (vi u)),(.var (.int .i64) (vi w)),(.var (.slice 49) (.sref 9 y z)),.dead,.dead,(.var (.slice 49) (.sref 18 A B)),(.var .str (vS C)),(.var (.int .i64) (vi E)),(.var (.int .i64) (vi F)),(.var (.int .i64) (vi G)),(.var (.slice 49) (.sref 17 I J)),.dead,.dead,(.row 49 true L N)]
def of16_11_0_0:List Leaf→Option S16_11_0
 | [.i f,.b g,.l j,.b m,.d o,.i p,.i q,.d r,.n u,.n w,.d y,.i z,.i A,.i B,.n C,.n E,.n F,.n G,.s I,.i J,.i L,.i N,.n O,.n P,.b Q,.l R]=>some ⟨f,g,j,m,o,p,q,r,u,w,y,z,A,B,C,E,F,G,I,J,L,N,O,P,Q,R⟩
 | _=>none
def ps16_11_0_0:List PV:=((up 2 ((.d (.int .i64) (.int .i64))::(up 3 ((.d (.slice 49) .slice)::(.d .bool .bool)::(up 6 ((.ptr 10 [] (.slice 49))::(up 55 ((.d (.slice 68) .x)::(.d (.int .i64) (.int .i64))::(.d (.int .i64) (.int .i64))::(up 22 []))))))))))
def qs16_11_0_0:List PO:=[q6_,q0_,.dead,(.var .str (.d .str .x)),q7_,q7_,q7_,(.var (.slice 49) (.sref 9)),.dead,.dead,(.var (.slice 49) (.sref 18)),(.var .str (.d .str .str)),q7_,q7_,q7_,(.var (.slice 49) (.sref 17)),.dead,.dead,(.row 49 true)]
def vv16_11_0:S16_11_0→List V×List AObj
 | ⟨f,g,j,m,o,p,q,r,u,w,y,z,A,B,C,E,F,G,I,J,L,N,O,P,Q,R⟩=>((fillVs ps16_11_0_0 [.i f,.b g,.l j,.b m,.d o,.i p,.i q,.d r,.n u,.n w,.d y,.i z,.i A,.i B,.n C,.n E,.n F,.n G,.s I,.i J,.i L,.i N,.n O,.n P,.b Q,.l R]).1,(fillOs qs16_11_0_0 (fillVs ps16_11_0_0 [.i f,.b g,.l j,.b m,.d o,.i p,.i q,.d r,.n u,.n w,.d y,.i z,.i A,.i B,.n C,.n E,.n F,.n G,.s I,.i J,.i L,.i N,.n O,.n P,.b Q,.l R]).2).1)
noncomputable def su16_11_0 (M:Nat):Sum:=sumJ [2,6,7,14,70,71,72] [⟨ps16_11_0_0,qs16_11_0_0,of16_11_0_0⟩] [(1048586,18)] (st16_11_0 M) ex16_11_0 M (su16 M)
noncomputable def t (M:Nat):List Ent:=⟨17,11,0,16,su16_11_0 M⟩::t9 M
theorem t_ok (M:Nat):AllOk (e M) (tblOf (t M)):=AllOk.addJ (n0:=19) (t9_ok M) (fun s=>(vv16_11_0 s).1) (fun s=>(vv16_11_0 s).2) (by kernel_rfl) rfl (.inr (by kernel_rfl)) ⟨by intro ls s h;replace h:of16_11_0_0 ls=some s:=h;unfold of16_11_0_0 at h;(repeat' split at h)<;>simp at h;subst h;exact⟨by kernel_rfl,by kernel_rfl⟩,trivial⟩ (by intro s;kernel_rfl) (by intro s;kernel_rfl) (by intro s nx k;kernel_rfl)
def s (M:Nat) (p0:D) (p1:D) (p2:Int):Option D:=
 (bd (F53.s FUEL p0) fun r1=>(cond (!r1.b) (some (D.tup [(dl false []),(db false)])) (cond (ltI p2 8) (some (D.tup [(dl false []),(db false)])) (cond (gtI p2 224) (some (D.tup [(dl false []),(db false)])) (cond (gtI (nI p1.elems.length) 400) (some (D.tup [(dl false []),(db false)])) (goS (st78_2 M) M ⟨(p0.at 0),(nI (p0.at 0).elems.length),0,p0⟩ fun x=>match x with | .e0 i4 X=>(cond (geI i4 0) (some (D.tup [(dl false []),(db false)])) (goS (st6 M) M (.s0 p1 p2 false [] false p1 (nI p1.elems.length) 0 X 0 0 false []) fun x=>match x with | .e0 A o ba bb u B C E F=>(some (D.tup [(dl false []),(db false)])) | .e1 A o Y Z aa u B C E F=>(bd (F60.s FUEL u (nI A.elems.length)) fun bc=>(goS (st110_1 M) M ⟨0,u,B,C,E,F,bc,o,0,0,0,0,false,[]⟩ fun x=>match x with | .e0 ab G p ac ae af ag ah ai f g aj ak=>(cond (true&&((bif ac then (decide (0<p)) else true)&&(mx p))) (cond (((Nat.beq f f)&&(Nat.beq g g))&&true) (cond (((Nat.beq f f)&&(Nat.beq g g))&&true) (goS (st110_1_9_17 M) M ⟨0,ab,G,p,af,ag,ah,ai,f,g,f,g,(ofBytes ((ae.drop G).take p)),o,0,1000,f,g,aj,ak⟩ fun x=>match x with | .e0 w al am an ao aq ar au av be bf aw ax ay az I J aA aB=>(goS (st16 M) M ⟨o,Y,Z,aa,(w.at 0),(nI (w.at 0).elems.length),0,w,al,am,an,ao,aq,ar,au,av,I,J,aw,ax,ay,az,I,J,aA,aB⟩ fun x=>match x with | .e0 bg bh bi bj bk bl bm bn bo bp bq br aC L bs bt bu bv bw bx aD aE=>(cond (gtI (nI L) 400) (some (D.tup [(dl false []),(db false)])) (some (D.tup [(dl aD ((aE.drop aC).take L)),(db true)]))))) none) none) none))) | .e2 N q bz bA y O P Q R=>(some (D.tup [(dl false []),(db false)])) | .e3 N q aF aG aH y O P Q R=>(bd (F60.s FUEL y (nI N.elems.length)) fun bB=>(goS (st110_1_8_9 M) M ⟨0,y,O,P,Q,R,bB,q,0,0,0,0,false,[]⟩ fun x=>match x with | .e0 aI S r aJ aK aL aM aN aO j m aP aQ=>(cond (true&&((bif aJ then (decide (0<r)) else true)&&(mx r))) (cond (((Nat.beq j j)&&(Nat.beq m m))&&true) (cond (((Nat.beq j j)&&(Nat.beq m m))&&true) (goS (st110_1_9_17_w2 M) M ⟨0,aI,S,r,aL,aM,aN,aO,j,m,j,m,(ofBytes ((aK.drop S).take r)),q,0,1000,j,m,aP,aQ⟩ fun x=>match x with | .e0 z aR aS aT aU aV aW aX aY bC bD aZ a0 a1 a2 T U a3 a4=>(goS (st16_11_0 M) M ⟨q,aF,aG,aH,(z.at 0),(nI (z.at 0).elems.length),0,z,aR,aS,aT,aU,aV,aW,aX,aY,T,U,aZ,a0,a1,a2,T,U,a3,a4⟩ fun x=>match x with | .e0 bE bF bG bH bI bJ bK bL bM bN bO bP a5 W bQ bR bS bT bU bV a6 a7=>(cond (gtI (nI W) 400) (some (D.tup [(dl false []),(db false)])) (some (D.tup [(dl a6 ((a7.drop a5).take W)),(db true)]))))) none) none) none))))) | .e1 X=>(goS (st6 M) M (.s0 p1 p2 false [] false p1 (nI p1.elems.length) 0 X 0 0 false []) fun x=>match x with | .e0 A o ba bb u B C E F=>(some (D.tup [(dl false []),(db false)])) | .e1 A o Y Z aa u B C E F=>(bd (F60.s FUEL u (nI A.elems.length)) fun bW=>(goS (st110_1 M) M ⟨0,u,B,C,E,F,bW,o,0,0,0,0,false,[]⟩ fun x=>match x with | .e0 ab G p ac ae af ag ah ai f g aj ak=>(cond (true&&((bif ac then (decide (0<p)) else true)&&(mx p))) (cond (((Nat.beq f f)&&(Nat.beq g g))&&true) (cond (((Nat.beq f f)&&(Nat.beq g g))&&true) (goS (st110_1_9_17 M) M ⟨0,ab,G,p,af,ag,ah,ai,f,g,f,g,(ofBytes ((ae.drop G).take p)),o,0,1000,f,g,aj,ak⟩ fun x=>match x with | .e0 w al am an ao aq ar au av be bf aw ax ay az I J aA aB=>(goS (st16 M) M ⟨o,Y,Z,aa,(w.at 0),(nI (w.at 0).elems.length),0,w,al,am,an,ao,aq,ar,au,av,I,J,aw,ax,ay,az,I,J,aA,aB⟩ fun x=>match x with | .e0 bg bh bi bj bk bl bm bn bo bp bq br aC L bs bt bu bv bw bx aD aE=>(cond (gtI (nI L) 400) (some (D.tup [(dl false []),(db false)])) (some (D.tup [(dl aD ((aE.drop aC).take L)),(db true)]))))) none) none) none))) | .e2 N q bz bA y O P Q R=>(some (D.tup [(dl false []),(db false)])) | .e3 N q aF aG aH y O P Q R=>(bd (F60.s FUEL y (nI N.elems.length)) fun bX=>(goS (st110_1_8_9 M) M ⟨0,y,O,P,Q,R,bX,q,0,0,0,0,false,[]⟩ fun x=>match x with | .e0 aI S r aJ aK aL aM aN aO j m aP aQ=>(cond (true&&((bif aJ then (decide (0<r)) else true)&&(mx r))) (cond (((Nat.beq j j)&&(Nat.beq m m))&&true) (cond (((Nat.beq j j)&&(Nat.beq m m))&&true) (goS (st110_1_9_17_w2 M) M ⟨0,aI,S,r,aL,aM,aN,aO,j,m,j,m,(ofBytes ((aK.drop S).take r)),q,0,1000,j,m,aP,aQ⟩ fun x=>match x with | .e0 z aR aS aT aU aV aW aX aY bC bD aZ a0 a1 a2 T U a3 a4=>(goS (st16_11_0 M) M ⟨q,aF,aG,aH,(z.at 0),(nI (z.at 0).elems.length),0,z,aR,aS,aT,aU,aV,aW,aX,aY,T,U,aZ,a0,a1,a2,T,U,a3,a4⟩ fun x=>match x with | .e0 bE bF bG bH bI bJ bK bL bM bN bO bP a5 W bQ bR bS bT bU bV a6 a7=>(cond (gtI (nI W) 400) (some (D.tup [(dl false []),(db false)])) (some (D.tup [(dl a6 ((a7.drop a5).take W)),(db true)]))))) none) none) none))))))))))
theorem run (M:Nat) (p0:D) (p1:D) (p2:Int):callS (e M) (tblOf (t M)) 12 (.fn 17) [.d (.struct [22,3,3]) p0,.d (.slice 32) p1,.d (.int .i64) (di p2)] [] (fun v H=>finish ty [33,4] v H)=s M p0 p1 p2:=by kernel_rfl
def c:Con:={ run:=fun ds=>match ds with | [p0,p1,p2]=>s FUEL p0 p1 p2.i | _=>none }
theorem ok:ConOk (17,c):=mkC Tryz.f17 [(.struct [22,3,3]),(.slice 32),(.int .i64)] [33,4] (by kernel_rfl) (by kernel_rfl) (by kernel_rfl) (by kernel_rfl) (allCons F52.ok (allCons F53.ok (allCons F55.ok (allCons F57.ok (allCons F60.ok allNil))))) (allCons string_ok (allCons copyCheck_ok allNil)) (t_ok FUEL) fun a=>run FUEL a.1 a.2.1 a.2.2.1
end F17
end Go.AM.SY
