/- Part 9 of the proof: the abstract machine, what the functions compute, and plain laws over that. -/
import Derived.Test.YtmbnifmpbafcjaaGreatDoorIp8
set_option linter.all false
set_option linter.unusedSimpArgs false
set_option linter.unusedVariables false
set_option linter.unusedSectionVars false
namespace Go.AM.SY
open Go Go.AM Go.Proofs Go.RowKit
namespace F117
def k0_:K:=(.struct [111,108])
def cons:List (Nat×Con):=[]
def exts:List (Nat×Ext):=[(62,stringX (.struct [111,108])),(109,copyCheckX (.struct [111,108]) 5)]
def h:List (Nat×Nat×Hint):=[(117,3,{ live:=[1,2,3,9,12,13,14],rows:=[(1056768,5)],out:=some [9] })]
noncomputable def e (M:Nat):Env:=env cons exts h M
inductive S3 where
 | s0 (f g j:Int) (m:D) (o p:Int) (q u:Nat) (w:Bool) (y:List D)
 | s1 (f g j:Int) (m:D) (o p:Int) (q u:Nat) (w:Bool) (y:List D)
inductive X3 where
 | e0 (f g:Nat) (j:Bool) (m:List D)
 | e1 (f g:Nat) (j:Bool) (m:List D)
def st3 (M:Nat):S3→(S3→Option D)→(X3→Option D)→Option D
 | .s0 m o p g q f u j w y,rec,K=>(cond (ltI f q) (cond (inb f g.elems.length) (cond (eqI ((ix g.elems f.toNat).at 1).i m) (cond (geI ((ix g.elems f.toNat).at 0).i o) (cond (ltI ((ix g.elems f.toNat).at 0).i p) (cond (mx (j+(bytesOf ((ix g.elems f.toNat).at 2).s).length)) (rec (.s1 m o p g q (ad .i64 f 1) 0 (j+(bytesOf ((ix g.elems f.toNat).at 2).s).length) (w||(!(bytesOf ((ix g.elems f.toNat).at 2).s).isEmpty)) (ap ((y.drop u).take j) (bytesOf ((ix g.elems f.toNat).at 2).s)))) none) (rec (.s0 m o p g q (ad .i64 f 1) u j w y))) (rec (.s0 m o p g q (ad .i64 f 1) u j w y))) (rec (.s0 m o p g q (ad .i64 f 1) u j w y))) none) (K (.e0 u j w y)))
 | .s1 m o p g q f u j w y,rec,K=>(cond (ltI f q) (cond (inb f g.elems.length) (cond (eqI ((ix g.elems f.toNat).at 1).i m) (cond (geI ((ix g.elems f.toNat).at 0).i o) (cond (ltI ((ix g.elems f.toNat).at 0).i p) (cond (mx (j+(bytesOf ((ix g.elems f.toNat).at 2).s).length)) (rec (.s1 m o p g q (ad .i64 f 1) 0 (j+(bytesOf ((ix g.elems f.toNat).at 2).s).length) (w||(!(bytesOf ((ix g.elems f.toNat).at 2).s).isEmpty)) (ap ((y.drop u).take j) (bytesOf ((ix g.elems f.toNat).at 2).s)))) none) (rec (.s1 m o p g q (ad .i64 f 1) u j w y))) (rec (.s1 m o p g q (ad .i64 f 1) u j w y))) (rec (.s1 m o p g q (ad .i64 f 1) u j w y))) none) (K (.e1 u j w y)))
def ex3 (k:Kont):X3→Option D
 | .e0 f g j m=>k (.exit 0) ((us 9 ((.ptr 0 [] k0_)::(us 29 [])))) [(.var k0_ (.agg k0_ [(vk (.ptr 113) D.nilPtr),(.sref 1 f g)])),(.row 5 true j m)]
 | .e1 f g j m=>k (.exit 0) ((us 9 ((.ptr 0 [] k0_)::(us 29 [])))) [(.var k0_ (.agg k0_ [(.ptr 0 [] k0_),(.sref 1 f g)])),(.row 5 true j m)]
def of3_0:List Leaf→Option S3
 | [.i f,.i g,.i j,.d m,.i o,.i p,.n q,.n u,.b w,.l y]=>some (.s0 f g j m o p q u w y)
 | _=>none
def ps3_0:List PV:=((up 1 ((.d (.int .i64) (.int .i64))::(.d (.int .i64) (.int .i64))::(.d (.int .i64) (.int .i64))::(up 5 ((.ptr 0 [] k0_)::(up 2 ((.d (.slice 49) .x)::(.d (.int .i64) (.int .i64))::(.d (.int .i64) (.int .i64))::(up 24 []))))))))
def qs3_0:List PO:=[(.var k0_ (.agg k0_ [(.d (.ptr 113) .nilPtr),(.sref 1)])),(.row 5 true)]
def of3_1:List Leaf→Option S3
 | [.i f,.i g,.i j,.d m,.i o,.i p,.n q,.n u,.b w,.l y]=>some (.s1 f g j m o p q u w y)
 | _=>none
def ps3_1:List PV:=((up 1 ((.d (.int .i64) (.int .i64))::(.d (.int .i64) (.int .i64))::(.d (.int .i64) (.int .i64))::(up 5 ((.ptr 0 [] k0_)::(up 2 ((.d (.slice 49) .x)::(.d (.int .i64) (.int .i64))::(.d (.int .i64) (.int .i64))::(up 24 []))))))))
def qs3_1:List PO:=[(.var k0_ (.agg k0_ [(.ptr 0 [] k0_),(.sref 1)])),(.row 5 true)]
def vv3:S3→List V×List AObj
 | .s0 f g j m o p q u w y=>((fillVs ps3_0 [.i f,.i g,.i j,.d m,.i o,.i p,.n q,.n u,.b w,.l y]).1,(fillOs qs3_0 (fillVs ps3_0 [.i f,.i g,.i j,.d m,.i o,.i p,.n q,.n u,.b w,.l y]).2).1)
 | .s1 f g j m o p q u w y=>((fillVs ps3_1 [.i f,.i g,.i j,.d m,.i o,.i p,.n q,.n u,.b w,.l y]).1,(fillOs qs3_1 (fillVs ps3_1 [.i f,.i g,.i j,.d m,.i o,.i p,.n q,.n u,.b w,.l y]).2).1)
noncomputable def su3 (M:Nat):Sum:=sumJ [1,2,3,9,12,13,14] [⟨ps3_0,qs3_0,of3_0⟩,⟨ps3_1,qs3_1,of3_1⟩] [(1056768,1)] (st3 M) ex3 M noSum
noncomputable def t (M:Nat):List Ent:=⟨117,11,0,3,su3 M⟩::[]
theorem t_ok (M:Nat):AllOk (e M) (tblOf (t M)):=AllOk.addJ (n0:=2) AllOk.nil (fun s=>(vv3 s).1) (fun s=>(vv3 s).2) (by kernel_rfl) rfl (.inl rfl) ⟨by intro ls s h;replace h:of3_0 ls=some s:=h;unfold of3_0 at h;(repeat' split at h)<;>simp at h;subst h;exact⟨by kernel_rfl,by kernel_rfl⟩,by intro ls s h;replace h:of3_1 ls=some s:=h;unfold of3_1 at h;(repeat' split at h)<;>simp at h;subst h;exact⟨by kernel_rfl,by kernel_rfl⟩,trivial⟩ (by intro s;cases s<;>kernel_rfl) (by intro s;cases s<;>kernel_rfl) (by intro s nx k;cases s<;>kernel_rfl)
def s (M:Nat) (p0:D) (p1:Int) (p2:Int) (p3:Int):Option D:=
 (goS (st3 M) M (.s0 p1 p2 p3 p0 (nI p0.elems.length) 0 0 0 false []) fun x=>match x with | .e0 j f m o=>(cond (true&&((bif m then (decide (0<f)) else true)&&(mx f))) (some (dS (ofBytes ((o.drop j).take f)))) none) | .e1 p g q u=>(cond (true&&((bif q then (decide (0<g)) else true)&&(mx g))) (some (dS (ofBytes ((u.drop p).take g)))) none))
theorem run (M:Nat) (p0:D) (p1:Int) (p2:Int) (p3:Int):callS (e M) (tblOf (t M)) 12 (.fn 117) [.d (.slice 49) p0,.d (.int .i64) (di p1),.d (.int .i64) (di p2),.d (.int .i64) (di p3)] [] (fun v H=>finish ty [9] v H)=s M p0 p1 p2 p3:=by kernel_rfl
def c:Con:={ run:=fun ds=>match ds with | [p0,p1,p2,p3]=>s FUEL p0 p1.i p2.i p3.i | _=>none,plain:=true }
theorem ok:ConOk (117,c):=mkC Tryz.f117 [(.slice 49),(.int .i64),(.int .i64),(.int .i64)] [9] (by kernel_rfl) (by kernel_rfl) (by kernel_rfl) (by kernel_rfl) allNil (allCons string_ok (allCons copyCheck_ok allNil)) (t_ok FUEL) fun a=>run FUEL a.1 a.2.1 a.2.2.1 a.2.2.2.1
end F117
namespace F204
def k0_:K:=(.struct [3,9,4])
def cons:List (Nat×Con):=[]
def exts:List (Nat×Ext):=[]
def h:List (Nat×Nat×Hint):=[(204,3,{ live:=[0,2,3,7,8],out:=some [2] })]
noncomputable def e (M:Nat):Env:=env cons exts h M
structure S3 where
 (s1:ByteArray) (i2 i3 i4 i5:Int) (s6:ByteArray) (b7:Bool)
inductive X3 where
 | e0 (f:ByteArray) (g j:Int) (m:D)
 | e1 (f:ByteArray) (g j:Int) (m:D)
 | e2 (f:ByteArray) (g j:Int) (m:D)
 | e3 (f:Int) (g:ByteArray) (j:Bool)
def st3 (M:Nat):S3→(S3→Option D)→(X3→Option D)→Option D
 | ⟨g,j,o,f,p,q,u⟩,rec,K=>(cond (ltI f o) (cond (inb f g.size) (bd (if (ml .i64 7 f)<0 then none else some (.int .i64 (shlI .i64 (cv .i64 (andI .u8 (byteAt g f.toNat) 127)) (ml .i64 7 f).toNat))) fun m=>(cond (inb f g.size) (cond (ltI (byteAt g f.toNat) 128) (cond ((leI 0 (ad .i64 f 1))&&(leI (ad .i64 f 1) (nI g.size))&&(leI (nI g.size) (nI g.size))&&(leI (nI g.size) (nI g.size))) (cond (leI (orI .i64 j m.i) 1125899906842624) (cond (eqI f 0) (K (.e0 g j f m)) (cond (inb f g.size) (K (.e1 g j f m)) none)) (K (.e2 g j f m))) none) (rec ⟨g,(orI .i64 j m.i),o,(ad .i64 f 1),p,q,u⟩)) none)) none) (K (.e3 p q u)))
def ex3 (k:Kont):X3→Option D
 | .e0 f g j m=>k .ret ((us 2 ((.ptr 0 [] k0_)::(us 42 [])))) [(.var k0_ (vk k0_ (da [(di (orI .i64 g m.i)),(dS (f.extract (ad .i64 j 1).toNat f.size)),(db true)])))]
 | .e1 f j g m=>k .ret ((us 2 ((.ptr 0 [] k0_)::(us 42 [])))) [(.var k0_ (vk k0_ (da [(di (orI .i64 j m.i)),(dS (f.extract (ad .i64 g 1).toNat f.size)),(db (gtI (byteAt f g.toNat) 0))])))]
 | .e2 f g j m=>k .ret ((us 2 ((.ptr 0 [] k0_)::(us 42 [])))) [(.var k0_ (vk k0_ (da [(di (orI .i64 g m.i)),(dS (f.extract (ad .i64 j 1).toNat f.size)),(db false)])))]
 | .e3 f g j=>k (.exit 0) ((us 2 ((.ptr 0 [] k0_)::(us 42 [])))) [(.var k0_ (vk k0_ (da [(di f),(dS g),(db j)])))]
def lv3:S3→List Leaf
 | ⟨f,g,j,m,o,p,q⟩=>[.s f,.i g,.i j,.i m,.i o,.s p,.b q]
def of3:List Leaf→Option S3
 | [.s f,.i g,.i j,.i m,.i o,.s p,.b q]=>some ⟨f,g,j,m,o,p,q⟩
 | _=>none
def ps3:List PV:=((.d .str .str)::(up 1 ((.ptr 0 [] k0_)::(.d (.int .i64) (.int .i64))::(up 3 ((.d (.int .i64) (.int .i64))::(.d (.int .i64) (.int .i64))::(up 36 []))))))
def qs3:List PO:=[(.var k0_ (.d k0_ (.agg [(.int .i64),.str,.bool])))]
noncomputable def t (M:Nat):List Ent:=⟨204,11,0,3,sumS [0,2,3,7,8] ps3 qs3 [] of3 (st3 M) ex3 M⟩::[]
theorem t_ok (M:Nat):AllOk (e M) (tblOf (t M)):=AllOk.addS (n0:=1) (lv:=lv3) AllOk.nil (by kernel_rfl) rfl (by intro ls s h;unfold of3 at h;(repeat' split at h)<;>simp at h;subst h;rfl) (by intro s;kernel_rfl) (by intro s;kernel_rfl) (by intro s nx k;kernel_rfl)
def s (M:Nat) (p0:ByteArray):Option D:=
 (goS (st3 M) M ⟨p0,0,(mini (nI p0.size) 8),0,0,(bs []),false⟩ fun x=>match x with | .e0 f j g m=>(some (da [(di (orI .i64 j m.i)),(dS (f.extract (ad .i64 g 1).toNat f.size)),(db true)])) | .e1 f j g m=>(some (da [(di (orI .i64 j m.i)),(dS (f.extract (ad .i64 g 1).toNat f.size)),(db (gtI (byteAt f g.toNat) 0))])) | .e2 f j g m=>(some (da [(di (orI .i64 j m.i)),(dS (f.extract (ad .i64 g 1).toNat f.size)),(db false)])) | .e3 o p q=>(some (da [(di 0),(dS (bs [])),(db false)])))
theorem run (M:Nat) (p0:ByteArray):callS (e M) (tblOf (t M)) 12 (.fn 204) [.d .str (dS p0)] [] (fun v H=>finish ty [294] v H)=s M p0:=by kernel_rfl
def c:Con:={ run:=fun ds=>match ds with | [p0]=>s FUEL p0.s | _=>none,plain:=true }
theorem ok:ConOk (204,c):=mkC Tryz.f204 [.str] [294] (by kernel_rfl) (by kernel_rfl) (by kernel_rfl) (by kernel_rfl) allNil allNil (t_ok FUEL) fun a=>run FUEL a.1
end F204
namespace F205
def cons:List (Nat×Con):=[]
def exts:List (Nat×Ext):=[]
def h:List (Nat×Nat×Hint):=[]
noncomputable def e (M:Nat):Env:=env cons exts h M
def s (M:Nat) (p0:D):Option D:=
 (cond (!(p0.at 2).b) (some (D.tup [(di 0),(dS (bs [])),(db false)])) (some (D.tup [(p0.at 0),(p0.at 1),(db true)])))
theorem run (M:Nat) (p0:D):callS (e M) (tblOf []) 12 (.fn 205) [.d (.struct [3,9,4]) p0] [] (fun v H=>finish ty [3,9,4] v H)=s M p0:=by kernel_rfl
def c:Con:={ run:=fun ds=>match ds with | [p0]=>s FUEL p0 | _=>none,plain:=true }
theorem ok:ConOk (205,c):=mkC Tryz.f205 [(.struct [3,9,4])] [3,9,4] (by kernel_rfl) (by kernel_rfl) (by kernel_rfl) (by kernel_rfl) allNil allNil AllOk.nil fun a=>run FUEL a.1
end F205
namespace F153
def cons:List (Nat×Con):=[(204,F204.c),(205,F205.c)]
def exts:List (Nat×Ext):=[]
def h:List (Nat×Nat×Hint):=[]
noncomputable def e (M:Nat):Env:=env cons exts h M
def s (M:Nat) (p0:ByteArray):Option D:=
 (bd (F204.s FUEL p0) fun g=>(bd (F205.s FUEL g) fun f=>(some (D.tup [(f.at 0),(f.at 1),(f.at 2)]))))
theorem run (M:Nat) (p0:ByteArray):callS (e M) (tblOf []) 12 (.fn 153) [.d .str (dS p0)] [] (fun v H=>finish ty [3,9,4] v H)=s M p0:=by kernel_rfl
def c:Con:={ run:=fun ds=>match ds with | [p0]=>s FUEL p0.s | _=>none,plain:=true }
theorem ok:ConOk (153,c):=mkC Tryz.f153 [.str] [3,9,4] (by kernel_rfl) (by kernel_rfl) (by kernel_rfl) (by kernel_rfl) (allCons F204.ok (allCons F205.ok allNil)) allNil AllOk.nil fun a=>run FUEL a.1
end F153
namespace F207
def cons:List (Nat×Con):=[(153,F153.c)]
def exts:List (Nat×Ext):=[]
def h:List (Nat×Nat×Hint):=[]
noncomputable def e (M:Nat):Env:=env cons exts h M
def s (M:Nat) (p0:ByteArray) (p1:Int):Option D:=
 (bd (F153.s FUEL p0) fun f=>(cond (!(f.at 2).b) (some (da [(dS (bs [])),(dS (bs [])),(db false)])) (cond (gtI (f.at 0).i (mini (nI (f.at 1).s.size) p1)) (some (da [(dS (bs [])),(dS (bs [])),(db false)])) (cond (true&&(leI 0 (f.at 0).i)&&(leI (f.at 0).i (nI (f.at 1).s.size))&&(leI (nI (f.at 1).s.size) (nI (f.at 1).s.size))) (cond ((leI 0 (f.at 0).i)&&(leI (f.at 0).i (nI (f.at 1).s.size))&&(leI (nI (f.at 1).s.size) (nI (f.at 1).s.size))&&(leI (nI (f.at 1).s.size) (nI (f.at 1).s.size))) (some (da [(dS ((f.at 1).s.extract 0 (f.at 0).i.toNat)),(dS ((f.at 1).s.extract (f.at 0).i.toNat (f.at 1).s.size)),(db true)])) none) none))))
theorem run (M:Nat) (p0:ByteArray) (p1:Int):callS (e M) (tblOf []) 12 (.fn 207) [.d .str (dS p0),.d (.int .i64) (di p1)] [] (fun v H=>finish ty [301] v H)=s M p0 p1:=by kernel_rfl
def c:Con:={ run:=fun ds=>match ds with | [p0,p1]=>s FUEL p0.s p1.i | _=>none,plain:=true }
theorem ok:ConOk (207,c):=mkC Tryz.f207 [.str,(.int .i64)] [301] (by kernel_rfl) (by kernel_rfl) (by kernel_rfl) (by kernel_rfl) (allCons F153.ok allNil) allNil AllOk.nil fun a=>run FUEL a.1 a.2.1
end F207
namespace F208
def cons:List (Nat×Con):=[]
def exts:List (Nat×Ext):=[]
def h:List (Nat×Nat×Hint):=[]
noncomputable def e (M:Nat):Env:=env cons exts h M
def s (M:Nat) (p0:D):Option D:=
 (cond (!(p0.at 2).b) (some (D.tup [(dS (bs [])),(dS (bs [])),(db false)])) (some (D.tup [(p0.at 0),(p0.at 1),(db true)])))
theorem run (M:Nat) (p0:D):callS (e M) (tblOf []) 12 (.fn 208) [.d (.struct [9,9,4]) p0] [] (fun v H=>finish ty [9,9,4] v H)=s M p0:=by kernel_rfl
def c:Con:={ run:=fun ds=>match ds with | [p0]=>s FUEL p0 | _=>none,plain:=true }
theorem ok:ConOk (208,c):=mkC Tryz.f208 [(.struct [9,9,4])] [9,9,4] (by kernel_rfl) (by kernel_rfl) (by kernel_rfl) (by kernel_rfl) allNil allNil AllOk.nil fun a=>run FUEL a.1
end F208
namespace F155
def cons:List (Nat×Con):=[(207,F207.c),(208,F208.c)]
def exts:List (Nat×Ext):=[]
def h:List (Nat×Nat×Hint):=[]
noncomputable def e (M:Nat):Env:=env cons exts h M
def s (M:Nat) (p0:ByteArray) (p1:Int):Option D:=
 (bd (F207.s FUEL p0 p1) fun g=>(bd (F208.s FUEL g) fun f=>(some (D.tup [(f.at 0),(f.at 1),(f.at 2)]))))
theorem run (M:Nat) (p0:ByteArray) (p1:Int):callS (e M) (tblOf []) 12 (.fn 155) [.d .str (dS p0),.d (.int .i64) (di p1)] [] (fun v H=>finish ty [9,9,4] v H)=s M p0 p1:=by kernel_rfl
def c:Con:={ run:=fun ds=>match ds with | [p0,p1]=>s FUEL p0.s p1.i | _=>none,plain:=true }
theorem ok:ConOk (155,c):=mkC Tryz.f155 [.str,(.int .i64)] [9,9,4] (by kernel_rfl) (by kernel_rfl) (by kernel_rfl) (by kernel_rfl) (allCons F207.ok (allCons F208.ok allNil)) allNil AllOk.nil fun a=>run FUEL a.1 a.2.1
end F155
namespace F172
def cons:List (Nat×Con):=[]
def exts:List (Nat×Ext):=[]
def h:List (Nat×Nat×Hint):=[]
noncomputable def e (M:Nat):Env:=env cons exts h M
def s (M:Nat)  : Option D:=
 (some (da [(dS (bs [99,114,101,97,116,101])),(dS (bs [97,112,112,101,110,100])),(dS (bs [115,101,97,108])),(dS (bs [101,120,116,101,110,100])),(dS (bs [104,111,108,100])),(dS (bs [114,101,108,101,97,115,101])),(dS (bs [100,101,108,101,116,101])),(dS (bs [116,105,99,107]))]))
theorem run (M:Nat)  : callS (e M) (tblOf []) 12 (.fn 172) [] [] (fun v H=>finish ty [253] v H)=s M  := by kernel_rfl
def c:Con:={ run:=fun ds=>match ds with | []=>s FUEL  | _=>none,plain:=true }
theorem ok:ConOk (172,c):=mkC Tryz.f172 [] [253] (by kernel_rfl) (by kernel_rfl) (by kernel_rfl) (by kernel_rfl) allNil allNil AllOk.nil fun _=>run FUEL
end F172
namespace F206
def cons:List (Nat×Con):=[]
def exts:List (Nat×Ext):=[]
def h:List (Nat×Nat×Hint):=[]
noncomputable def e (M:Nat):Env:=env cons exts h M
def s (M:Nat) (p0:D):Option D:=
 (cond (!(p0.at 2).b) (some (D.tup [(da (rp 32 (D.int .u8 0))),(dS (bs [])),(db false)])) (some (D.tup [(p0.at 0),(p0.at 1),(db true)])))
theorem run (M:Nat) (p0:D):callS (e M) (tblOf []) 12 (.fn 206) [.d (.struct [30,9,4]) p0] [] (fun v H=>finish ty [30,9,4] v H)=s M p0:=by kernel_rfl
def c:Con:={ run:=fun ds=>match ds with | [p0]=>s FUEL p0 | _=>none,plain:=true }
theorem ok:ConOk (206,c):=mkC Tryz.f206 [(.struct [30,9,4])] [30,9,4] (by kernel_rfl) (by kernel_rfl) (by kernel_rfl) (by kernel_rfl) allNil allNil AllOk.nil fun a=>run FUEL a.1
end F206
namespace F154
def cons:List (Nat×Con):=[(206,F206.c)]
def exts:List (Nat×Ext):=[]
def h:List (Nat×Nat×Hint):=[]
noncomputable def e (M:Nat):Env:=env cons exts h M
def s (M:Nat) (p0:ByteArray):Option D:=
 (cond (ltI (nI p0.size) 32) (bd (F206.s FUEL (da [(da (rp 32 (D.int .u8 0))),(dS (bs [])),(db false)])) fun f=>(some (D.tup [(f.at 0),(f.at 1),(f.at 2)]))) (cond (true&&true&&(leI 32 (nI p0.size))&&(leI (nI p0.size) (nI p0.size))) (cond (mx (p0.extract 0 32).size) (cond ((Nat.beq (p0.extract 0 32).size 32)&&(Nat.beq (bytesOf (p0.extract 0 32)).length 32)) (cond (true&&(leI 32 (nI p0.size))&&(leI (nI p0.size) (nI p0.size))&&(leI (nI p0.size) (nI p0.size))) (bd (F206.s FUEL (da [(D.agg (bytesOf (p0.extract 0 32))),(dS (p0.extract 32 p0.size)),(db true)])) fun g=>(some (D.tup [(g.at 0),(g.at 1),(g.at 2)]))) none) none) none) none))
theorem run (M:Nat) (p0:ByteArray):callS (e M) (tblOf []) 12 (.fn 154) [.d .str (dS p0)] [] (fun v H=>finish ty [30,9,4] v H)=s M p0:=by kernel_rfl
def c:Con:={ run:=fun ds=>match ds with | [p0]=>s FUEL p0.s | _=>none,plain:=true }
theorem ok:ConOk (154,c):=mkC Tryz.f154 [.str] [30,9,4] (by kernel_rfl) (by kernel_rfl) (by kernel_rfl) (by kernel_rfl) (allCons F206.ok allNil) allNil AllOk.nil fun a=>run FUEL a.1
end F154
namespace F173
def cons:List (Nat×Con):=[(153,F153.c),(154,F154.c),(155,F155.c)]
def exts:List (Nat×Ext):=[]
def h:List (Nat×Nat×Hint):=[]
noncomputable def e (M:Nat):Env:=env cons exts h M
def s (M:Nat) (p0:D) (p1:ByteArray):Option D:=
 (cond (isT 246 p0) (bd (F155.s FUEL p1 100) fun f=>(some (D.tup [(D.iface 246 (f.at 0)),(f.at 1),(f.at 2)]))) (cond (isT 250 p0) (bd (F154.s FUEL p1) fun g=>(some (D.tup [(D.iface 250 (g.at 0)),(g.at 1),(g.at 2)]))) (bd (F153.s FUEL p1) fun j=>(some (D.tup [(D.iface 249 (j.at 0)),(j.at 1),(j.at 2)])))))
theorem run (M:Nat) (p0:D) (p1:ByteArray):callS (e M) (tblOf []) 12 (.fn 173) [.d (.iface true) p0,.d .str (dS p1)] [] (fun v H=>finish ty [183,9,4] v H)=s M p0 p1:=by kernel_rfl
def c:Con:={ run:=fun ds=>match ds with | [p0,p1]=>s FUEL p0 p1.s | _=>none }
theorem ok:ConOk (173,c):=mkC Tryz.f173 [(.iface true),.str] [183,9,4] (by kernel_rfl) (by kernel_rfl) (by kernel_rfl) (by kernel_rfl) (allCons F153.ok (allCons F154.ok (allCons F155.ok allNil))) allNil AllOk.nil fun a=>run FUEL a.1 a.2.1
end F173
namespace F121
def k0_:K:=(.struct [28,3,9,3,3,30])
def cons:List (Nat×Con):=[(107,F107.c),(108,F108f.c),(153,F153.c),(166,F166.c),(172,F172.c),(173,F173.c)]
def exts:List (Nat×Ext):=[]
def h:List (Nat×Nat×Hint):=[(121,7,{ live:=[2,6,8,9,32,33],out:=some [2,3,4,6,8,9] })]
noncomputable def e (M:Nat):Env:=env cons exts h M
structure S7 where
 (d4 d5:D) (n6 n7:Nat) (i8 i9 i10 i11:Int) (s12:ByteArray) (i13 i14:Int) (d15:D) (b16:Bool) (l17:List D)
inductive X7 where
 | e0 (f:D) (g j:Nat) (m:Int) (o:Bool) (p:List D) (q:D)
 | e1 (f g:D) (j m:Nat) (o p:Int) (q:ByteArray) (u w:Int) (y:D) (C:Bool) (F:List D)
def st7 (M:Nat):S7→(S7→Option D)→(X7→Option D)→Option D
 | ⟨u,p,g,j,w,f,y,C,F,G,I,J,q,m⟩,rec,K=>(cond (ltI f w) (cond (inb f j) (bd (F173.s FUEL (ix m (g+f.toNat)) u.s) fun o=>(cond (inb f j) (cond (!(o.at 2).b) (K (.e0 p g j f q m o)) (rec ⟨(o.at 1),p,g,j,w,(ad .i64 f 1),y,C,F,G,I,J,q,(m.set (g+f.toNat) (o.at 0))⟩)) none)) none) (K (.e1 u p g j y C F G I J q m)))
def ex7 (k:Kont):X7→Option D
 | .e0 j f m o p q g=>k .ret ((us 2 ((.ptr 0 [] k0_)::(vS (bs []))::(vb false)::(us 1 ((vk .str (g.at 1))::(us 1 ((vk (.int .i64) j)::(.sref 1 f m)::(us 52 [])))))))) [(.var k0_ (vk k0_ (da [(di 0),(di 0),(dS (bs [])),(di 0),(di 0),(da (rp 32 (D.int .u8 0)))]))),(.row 183 true p (q.set (f+o.toNat) (g.at 0)))]
 | .e1 f g j m o p q u w y C F=>k (.exit 0) ((us 2 ((.ptr 0 [] k0_)::(us 3 ((vk .str f)::(us 1 ((vk (.int .i64) g)::(.sref 1 j m)::(us 52 [])))))))) [(.var k0_ (vk k0_ (da [(di o),(di p),(dS q),(di u),(di w),y]))),(.row 183 true C F)]
def lv7:S7→List Leaf
 | ⟨f,g,j,m,o,p,q,u,w,y,C,F,G,I⟩=>[.d f,.d g,.n j,.n m,.i o,.i p,.i q,.i u,.s w,.i y,.i C,.d F,.b G,.l I]
def of7:List Leaf→Option S7
 | [.d f,.d g,.n j,.n m,.i o,.i p,.i q,.i u,.s w,.i y,.i C,.d F,.b G,.l I]=>some ⟨f,g,j,m,o,p,q,u,w,y,C,F,G,I⟩
 | _=>none
def ps7:List PV:=((up 2 ((.ptr 0 [] k0_)::(up 3 ((.d .str .x)::(up 1 ((.d (.int .i64) .x)::(.sref 1)::(up 22 ((.d (.int .i64) (.int .i64))::(.d (.int .i64) (.int .i64))::(up 28 []))))))))))
def qs7:List PO:=[(.var k0_ (.d k0_ (.agg [(.int .i64),(.int .i64),.str,(.int .i64),(.int .i64),.x]))),(.row 183 true)]
noncomputable def t (M:Nat):List Ent:=⟨121,11,0,7,sumS [2,6,8,9,32,33] ps7 qs7 [] of7 (st7 M) ex7 M⟩::[]
theorem t_ok (M:Nat):AllOk (e M) (tblOf (t M)):=AllOk.addS (n0:=2) (lv:=lv7) AllOk.nil (by kernel_rfl) rfl (by intro ls s h;unfold of7 at h;(repeat' split at h)<;>simp at h;subst h;rfl) (by intro s;kernel_rfl) (by intro s;kernel_rfl) (by intro s nx k;kernel_rfl)
def s (M:Nat) (p0:ByteArray):Option D:=
 (bd (F153.s FUEL p0) fun f=>(cond (!(f.at 2).b) (some (D.tup [(da [(di 0),(di 0),(dS (bs [])),(di 0),(di 0),(da (rp 32 (D.int .u8 0)))]),(dS (bs [])),(db false)])) (bd (F172.s FUEL) fun C=>(cond (geI (f.at 0).i 8) (some (D.tup [(da [(di 0),(di 0),(dS (bs [])),(di 0),(di 0),(da (rp 32 (D.int .u8 0)))]),(dS (bs [])),(db false)])) (bd (F108f.s FUEL (da [(f.at 0),(di 0),(dS (bs [])),(di 0),(di 0),(da (rp 32 (D.int .u8 0)))])) fun g=>(goS (st7 M) M ⟨(f.at 1),(f.at 0),0,g.elems.length,(nI g.elems.length),0,0,0,(bs []),0,0,(da (rp 32 (D.int .u8 0))),g.nn,g.elems⟩ fun x=>match x with | .e0 j m o F p q G=>(some (D.tup [(da [(di 0),(di 0),(dS (bs [])),(di 0),(di 0),(da (rp 32 (D.int .u8 0)))]),(dS (bs [])),(db false)])) | .e1 w j m o I J L N O Q p q=>(bd (F166.s FUEL j.i (dl p ((q.drop m).take o))) fun u=>(bd (F107.s FUEL u) fun y=>(cond (!y.b) (some (D.tup [(da [(di 0),(di 0),(dS (bs [])),(di 0),(di 0),(da (rp 32 (D.int .u8 0)))]),(dS (bs [])),(db false)])) (some (D.tup [u,w,(db true)])))))))))))
theorem run (M:Nat) (p0:ByteArray):callS (e M) (tblOf (t M)) 12 (.fn 121) [.d .str (dS p0)] [] (fun v H=>finish ty [32,9,4] v H)=s M p0:=by kernel_rfl
def c:Con:={ run:=fun ds=>match ds with | [p0]=>s FUEL p0.s | _=>none,plain:=true }
theorem ok:ConOk (121,c):=mkC Tryz.f121 [.str] [32,9,4] (by kernel_rfl) (by kernel_rfl) (by kernel_rfl) (by kernel_rfl) (allCons F107.ok (allCons F108f.ok (allCons F153.ok (allCons F166.ok (allCons F172.ok (allCons F173.ok allNil)))))) allNil (t_ok FUEL) fun a=>run FUEL a.1
end F121
namespace F70
def cons:List (Nat×Con):=[]
def exts:List (Nat×Ext):=[]
def h:List (Nat×Nat×Hint):=[(70,4,{ live:=[0,1,12,13],out:=some [4] })]
noncomputable def e (M:Nat):Env:=env cons exts h M
structure S4 where
 (d1 d2:D) (i3 i4:Int)
inductive X4 where
 | e0
 | e1
def st4 (M:Nat):S4→(S4→Option D)→(X4→Option D)→Option D
 | ⟨g,j,m,f⟩,rec,K=>(cond (ltI f m) (cond (inb f g.elems.length) (cond (inb f j.elems.length) (bd (match D.eqv ty eqDepth (ix g.elems f.toNat) (ix j.elems f.toNat) (.struct [3,3,9]) with | some z=>some (.bool (!z)) | none=>none) fun o=>(cond o.b (K .e0) (rec ⟨g,j,m,(ad .i64 f 1)⟩))) none) none) (K .e1))
def ex4 (k:Kont):X4→Option D
 | .e0  => k .ret ((us 4 ((vb false)::(us 21 [])))) []
 | .e1  => k (.exit 0) ((us 26 [])) []
def lv4:S4→List Leaf
 | ⟨f,g,j,m⟩=>[.d f,.d g,.i j,.i m]
def of4:List Leaf→Option S4
 | [.d f,.d g,.i j,.i m]=>some ⟨f,g,j,m⟩
 | _=>none
def ps4:List PV:=((.d (.slice 49) .x)::(.d (.slice 49) .x)::(up 10 ((.d (.int .i64) (.int .i64))::(.d (.int .i64) (.int .i64))::(up 12 []))))
def qs4:List PO:=[]
noncomputable def t (M:Nat):List Ent:=⟨70,11,0,4,sumS [0,1,12,13] ps4 qs4 [] of4 (st4 M) ex4 M⟩::[]
theorem t_ok (M:Nat):AllOk (e M) (tblOf (t M)):=AllOk.addS (n0:=0) (lv:=lv4) AllOk.nil (by kernel_rfl) rfl (by intro ls s h;unfold of4 at h;(repeat' split at h)<;>simp at h;subst h;rfl) (by intro s;kernel_rfl) (by intro s;kernel_rfl) (by intro s nx k;kernel_rfl)
def s (M:Nat) (p0:D) (p1:D):Option D:=
 (cond (neI (nI p0.elems.length) (nI p1.elems.length)) (some (db false)) (goS (st4 M) M ⟨p0,p1,(nI p0.elems.length),0⟩ fun x=>match x with | .e0  => (some (db false)) | .e1  => (some (db true))))
theorem run (M:Nat) (p0:D) (p1:D):callS (e M) (tblOf (t M)) 12 (.fn 70) [.d (.slice 49) p0,.d (.slice 49) p1] [] (fun v H=>finish ty [4] v H)=s M p0 p1:=by kernel_rfl
def c:Con:={ run:=fun ds=>match ds with | [p0,p1]=>s FUEL p0 p1 | _=>none,plain:=true }
theorem ok:ConOk (70,c):=mkC Tryz.f70 [(.slice 49),(.slice 49)] [4] (by kernel_rfl) (by kernel_rfl) (by kernel_rfl) (by kernel_rfl) allNil allNil (t_ok FUEL) fun a=>run FUEL a.1 a.2.1
end F70
namespace F22
def k0_:K:=(.struct [22,3,3])
def k1_:K:=(.struct [3,9,9,4,3,66])
def k2_:K:=(.struct [9])
def cons:List (Nat×Con):=[(17,F17.c),(70,F70.c),(117,F117.c),(121,F121.c),(153,F153.c),(155,F155.c)]
def exts:List (Nat×Ext):=[]
def h:List (Nat×Nat×Hint):=[(69,5,{ live:=[0,2,3,4,6,26,27],rows:=[(1052675,68),(3,32)],out:=some [0,2,3,6] }),(69,12,{ live:=[0,2,3,4,6,7,26,27,60,61],rows:=[(1073159,9)],out:=some [0,2,3,4,6,7,26,27] }),(69,19,{ live:=[2,3,4,82,83],rows:=[(3,32)],out:=some [2,3] })]
noncomputable def z (M:Nat):Env:=env cons exts h M
noncomputable def bod0:Code:=Tryz.f22.body.getD .skip
noncomputable def gbod0:Code:=Tryz.f68.body.getD .skip
noncomputable def cA:Code:=cHd bod0
noncomputable def dO:Array Oper:=cOp (cHd (cTl bod0))
noncomputable def cO:Array Oper:=cOp (cHd (cTl (cTl bod0)))
noncomputable def cB:Code:=cTl (cTl (cTl bod0))
noncomputable def rO:Array Oper:=cOp (cHd gbod0)
noncomputable def mk:Oper:=dO.toList.getD 0 default
noncomputable def df:Oper:=dO.toList.getD 1 default
noncomputable def pre:List Oper:=cO.toList.take 1
noncomputable def co:Oper:=cO.toList.getD 1 default
noncomputable def post:List Oper:=cO.toList.drop 2
noncomputable def yd:Dfr:=⟨12,22,68,16,rO.toList,cTl gbod0,((.ptr 2 [] .bool)::(.ptr 0 [] (.struct [22,3,3]))::(.ptr 1 [] (.slice 32))::[]),((us 4 ((.ptr 0 [] (.struct [22,3,3]))::(.ptr 1 [] (.slice 32))::(.ptr 2 [] .bool)::(us 22 [])))),[4,5,6],8,Tryz.f22.results.toList,[24,25,4]⟩
def q0_:PO:=(.var k0_ (.agg k0_ [(.sref 5),(.d (.int .i64) .x),(.d (.int .i64) .x)]))
def q1_:PO:=(.var k0_ (.d k0_ (.agg [.slice,(.int .i64),(.int .i64)])))
def q2_:PO:=(.var k2_ (.d k2_ (.agg [.x])))
def q3_:PO:=(.var (.slice 32) (.d (.slice 32) .slice))
noncomputable def e (M:Nat):Env:=panE (z M) yd
structure S69_12 where
 (d35:D) (n36 n37:Nat) (d38 d39:D) (i40:Int) (d41:D) (i42:Int) (b43:Bool) (l44:List D) (i45 i46:Int) (b47:Bool) (l48:List D) (b49:Bool) (n50 n51:Nat) (d52 d53 d54:D) (b55:Bool) (l56:List D) (b57:Bool) (l58:List D) (d59 d60:D) (s61:ByteArray) (b62:Bool) (d63:D) (n64 n65:Nat) (s66:ByteArray) (b67:Bool) (l68:List D)
inductive X69_12 where
 | e0 (f:D) (g j:Nat) (m o:D) (p:Int) (q:Bool) (u:List D) (w y:Int) (C:Bool) (F:List D) (G:Bool) (I J:Nat) (L N O:D) (Q:Bool) (R:List D) (S:Bool) (U:List D) (W X:D) (Z:ByteArray) (aa:Bool) (ab:D) (ac ae:Nat) (af:ByteArray) (ag:Bool) (ah:List D)
def st69_12 (M:Nat):S69_12→(S69_12→Option D)→(X69_12→Option D)→Option D
 | ⟨m,o,p,q,u,w,y,C,F,G,I,J,L,N,O,Q,R,S,U,W,X,Z,aa,ab,ac,ae,af,ag,ah,g,f,ai,aj,ak⟩,rec,K=>(cond (ltI C y.i) (bd (F155.s FUEL W.s 100) fun j=>(cond (!(j.at 2).b) (some (D.tup [(da [(dl false []),(di 0),(di 0)]),(dl false []),(db false)])) (cond (((Nat.beq g g)&&(Nat.beq f f))&&true) (cond (mx (f+1)) (rec ⟨m,o,p,q,u,w,y,(ad .i64 C 1),F,G,I,J,L,N,O,Q,R,S,U,(j.at 1),X,Z,aa,ab,ac,ae,af,ag,ah,0,(f+1),ai,(aj||true),(ap ((ak.drop g).take f) [(j.at 0)])⟩) none) none))) (K (.e0 m o p q u w F G I J L N O Q R S U W X Z aa ab ac ae af ag ah g f ai aj ak)))
def ex69_12 (k:Kont):X69_12→Option D
 | .e0 f g j m o p q u w y C F G I J L N O Q R S U W X Z aa ab ac ae af ag ah=>k (.exit 2) ((vk (.slice 49) f)::(us 1 ((.ptr 3 [] k0_)::(.sref 6 g j)::(.ptr 4 [] k2_)::(us 1 ((vk (.int .i64) m)::(.ptr 7 [] k1_)::(us 18 ((vk (.int .i64) o)::(vi p)::(us 79 [])))))))) [(.var k0_ (vk k0_ (da [(dl q u),(di w),(di y)]))),(.var (.slice 32) (vk (.slice 32) (dl C F))),(.var .bool (vb G)),(.var k0_ (.agg k0_ [(.sref 5 I J),(vk (.int .i64) L),(vk (.int .i64) N)])),(.var k2_ (vk k2_ (da [O]))),(.row 68 true Q R),(.row 32 true S U),(.var k1_ (.agg k1_ [(vk (.int .i64) W),(vk .str X),(vS Z),(vb aa),(vk (.int .i64) ab),(.sref 9 ac ae)])),(.var k2_ (vk k2_ (da [(dS af)]))),(.row 9 true ag ah)]
def lv69_12:S69_12→List Leaf
 | ⟨f,g,j,m,o,p,q,u,w,y,C,F,G,I,J,L,N,O,Q,R,S,U,W,X,Z,aa,ab,ac,ae,af,ag,ah,ai,aj⟩=>[.d f,.n g,.n j,.d m,.d o,.i p,.d q,.i u,.b w,.l y,.i C,.i F,.b G,.l I,.b J,.n L,.n N,.d O,.d Q,.d R,.b S,.l U,.b W,.l X,.d Z,.d aa,.s ab,.b ac,.d ae,.n af,.n ag,.s ah,.b ai,.l aj]
def of69_12:List Leaf→Option S69_12
 | .d f::.n g::.n j::.d m::.d o::.i p::.d q::.i u::.b w::.l y::.i C::.i F::.b G::.l I::.b J::.n L::.n N::.d O::.d Q::.d R::.b S::.l U::.b W::.l X::.d Z::.d aa::.s ab::.b ac::rest2=>(match rest2 with
  | [.d ae,.n af,.n ag,.s ah,.b ai,.l aj]=>some ⟨f,g,j,m,o,p,q,u,w,y,C,F,G,I,J,L,N,O,Q,R,S,U,W,X,Z,aa,ab,ac,ae,af,ag,ah,ai,aj⟩
  | _=>none)
 | _=>none
def ps69_12:List PV:=((.d (.slice 49) .x)::(up 1 ((.ptr 3 [] k0_)::(.sref 6)::(.ptr 4 [] k2_)::(up 1 ((.d (.int .i64) .x)::(.ptr 7 [] k1_)::(up 18 ((.d (.int .i64) .x)::(.d (.int .i64) (.int .i64))::(up 32 ((.d (.int .i64) .x)::(.d (.int .i64) (.int .i64))::(up 45 []))))))))))
def qs69_12:List PO:=[q1_,q3_,(.var .bool (.d .bool .bool)),q0_,q2_,(.row 68 true),(.row 32 true),(.var k1_ (.agg k1_ [(.d (.int .i64) .x),(.d .str .x),(.d .str .str),(.d .bool .bool),(.d (.int .i64) .x),(.sref 9)])),(.var k2_ (.d k2_ (.agg [.str]))),(.row 9 true)]
noncomputable def t1 (M:Nat):List Ent:=⟨69,11,3,12,sumS [0,2,3,4,6,7,26,27,60,61] ps69_12 qs69_12 [(1073159,9)] of69_12 (st69_12 M) ex69_12 M⟩::[]
theorem t1_ok (M:Nat):AllOk (e M) (tblOf (t1 M)):=AllOk.addS (n0:=10) (lv:=lv69_12) AllOk.nil (by kernel_rfl) rfl (by intro ls s h;unfold of69_12 at h;(repeat' split at h)<;>simp at h;subst h;rfl) (by intro s;kernel_rfl) (by intro s;kernel_rfl) (by intro s nx k;kernel_rfl)
structure S69_5 where
 (d6:D) (n7 n8:Nat) (d9 d10:D) (i11:Int) (b12:Bool) (l13:List D) (i14 i15:Int) (b16:Bool) (l17:List D) (b18:Bool) (n19 n20:Nat) (d21 d22 d23:D) (b24:Bool) (l25:List D) (b26:Bool) (l27:List D)
inductive X69_5 where
 | e0 (f:D) (g j:Nat) (m:D) (o:Bool) (p:List D) (q u:Int) (w:Bool) (y:List D) (C:Bool) (F G:Nat) (I J L:D) (N:Bool) (O:List D) (Q:Bool) (R:List D)
def st69_5 (M:Nat):S69_5→(S69_5→Option D)→(X69_5→Option D)→Option D
 | ⟨q,y,C,F,G,I,J,L,N,O,Q,R,S,U,W,X,Z,aa,ab,ac,ae,af⟩,rec,K=>(cond (ltI I G.i) (bd (F153.s FUEL aa.s) fun j=>(cond (!(j.at 2).b) (some (D.tup [(da [(dl false []),(di 0),(di 0)]),(dl false []),(db false)])) (cond (gtI (j.at 0).i 134217728) (some (D.tup [(da [(dl false []),(di 0),(di 0)]),(dl false []),(db false)])) (bd (F155.s FUEL (j.at 1).s 100) fun u=>(cond (!(u.at 2).b) (some (D.tup [(da [(dl false []),(di 0),(di 0)]),(dl false []),(db false)])) (bd (F153.s FUEL (u.at 1).s) fun m=>(cond (!(m.at 2).b) (some (D.tup [(da [(dl false []),(di 0),(di 0)]),(dl false []),(db false)])) (cond (gtI (m.at 0).i 1) (some (D.tup [(da [(dl false []),(di 0),(di 0)]),(dl false []),(db false)])) (bd (F153.s FUEL (m.at 1).s) fun o=>(cond (!(o.at 2).b) (some (D.tup [(da [(dl false []),(di 0),(di 0)]),(dl false []),(db false)])) (cond (gtI (o.at 0).i 1125899906842624) (some (D.tup [(da [(dl false []),(di 0),(di 0)]),(dl false []),(db false)])) (bd (F117.s FUEL q (j.at 0).i (ml .i64 4096 (j.at 0).i) (ml .i64 4096 (ad .i64 (j.at 0).i 1))) fun f=>(bd (F153.s FUEL (o.at 1).s) fun g=>(cond (!(g.at 2).b) (some (D.tup [(da [(dl false []),(di 0),(di 0)]),(dl false []),(db false)])) (cond (gtI (g.at 0).i 600) (some (D.tup [(da [(dl false []),(di 0),(di 0)]),(dl false []),(db false)])) (cond (gtI (g.at 0).i (nI f.s.size)) (some (D.tup [(da [(dl false []),(di 0),(di 0)]),(dl false []),(db false)])) (cond (true&&(leI 0 (g.at 0).i)&&(leI (g.at 0).i (nI f.s.size))&&(leI (nI f.s.size) (nI f.s.size))) (cond ((leI 0 (g.at 0).i)&&(leI (g.at 0).i (nI f.s.size))&&(leI (nI f.s.size) (nI f.s.size))&&(leI (nI f.s.size) (nI f.s.size))) (bd (F153.s FUEL (g.at 1).s) fun p=>(cond (!(p.at 2).b) (some (D.tup [(da [(dl false []),(di 0),(di 0)]),(dl false []),(db false)])) (cond (gtI (p.at 0).i 4) (some (D.tup [(da [(dl false []),(di 0),(di 0)]),(dl false []),(db false)])) (goS (st69_12 M) M ⟨q,y,C,F,G,I,(p.at 0),0,J,L,N,O,Q,R,S,U,W,X,Z,(p.at 1),ab,ac,ae,af,(j.at 0),(u.at 0),(f.s.extract 0 (g.at 0).i.toNat),(eqI (m.at 0).i 1),(o.at 0),0,0,(f.s.extract (g.at 0).i.toNat f.s.size),false,[]⟩ fun x=>match x with | .e0 ag ah ai aj ak al am an ao aq ar au av aw w ax ay az aA aB aC aD aE aF aG aH aI aJ aK aN aL aM=>(cond (mx (w+1)) (rec ⟨ag,ah,ai,aj,ak,(ad .i64 al 1),am,an,ao,aq,ar,au,av,0,(w+1),ax,ay,az,(aA||true),(ap ((aB.drop aw).take w) [(da [aE,aF,(dS aG),(db aH),aI,(dl aL ((aM.drop aJ).take aK))])]),aC,aD⟩) none))))) none) none))))))))))))))))) (K (.e0 q y C F J L N O Q R S U W X Z aa ab ac ae af)))
def ex69_5 (k:Kont):X69_5→Option D
 | .e0 f g j m o p q u w y C F G I J L N O Q R=>k (.exit 0) ((vk (.slice 49) f)::(us 1 ((.ptr 3 [] k0_)::(.sref 6 g j)::(us 2 ((vk (.int .i64) m)::(us 100 [])))))) [(.var k0_ (vk k0_ (da [(dl o p),(di q),(di u)]))),(.var (.slice 32) (vk (.slice 32) (dl w y))),(.var .bool (vb C)),(.var k0_ (.agg k0_ [(.sref 5 F G),(vk (.int .i64) I),(vk (.int .i64) J)])),(.var k2_ (vk k2_ (da [L]))),(.row 68 true N O),(.row 32 true Q R)]
def lv69_5:S69_5→List Leaf
 | ⟨f,g,j,m,o,p,q,u,w,y,C,F,G,I,J,L,N,O,Q,R,S,U⟩=>[.d f,.n g,.n j,.d m,.d o,.i p,.b q,.l u,.i w,.i y,.b C,.l F,.b G,.n I,.n J,.d L,.d N,.d O,.b Q,.l R,.b S,.l U]
def of69_5:List Leaf→Option S69_5
 | [.d f,.n g,.n j,.d m,.d o,.i p,.b q,.l u,.i w,.i y,.b C,.l F,.b G,.n I,.n J,.d L,.d N,.d O,.b Q,.l R,.b S,.l U]=>some ⟨f,g,j,m,o,p,q,u,w,y,C,F,G,I,J,L,N,O,Q,R,S,U⟩
 | _=>none
def ps69_5:List PV:=((.d (.slice 49) .x)::(up 1 ((.ptr 3 [] k0_)::(.sref 6)::(.ptr 4 [] k2_)::(up 1 ((.d (.int .i64) .x)::(up 19 ((.d (.int .i64) .x)::(.d (.int .i64) (.int .i64))::(up 79 []))))))))
def qs69_5:List PO:=[q1_,q3_,(.var .bool (.d .bool .bool)),q0_,q2_,(.row 68 true),(.row 32 true)]
noncomputable def t2 (M:Nat):List Ent:=⟨69,11,3,5,sumS [0,2,3,4,6,26,27] ps69_5 qs69_5 [(1052675,5),(3,6)] of69_5 (st69_5 M) ex69_5 M⟩::t1 M
theorem t2_ok (M:Nat):AllOk (e M) (tblOf (t2 M)):=AllOk.addS (n0:=7) (lv:=lv69_5) (t1_ok M) (by kernel_rfl) rfl (by intro ls s h;unfold of69_5 at h;(repeat' split at h)<;>simp at h;subst h;rfl) (by intro s;kernel_rfl) (by intro s;kernel_rfl) (by intro s nx k;kernel_rfl)
structure S69_19 where
 (n71 n72:Nat) (d73:D) (i74:Int) (b75:Bool) (l76:List D) (i77 i78:Int) (b79:Bool) (l80:List D) (b81:Bool) (n82 n83:Nat) (d84 d85 d86:D) (b87:Bool) (l88:List D) (b89:Bool) (l90:List D) (d91:D)
inductive X69_19 where
 | e0 (f g:Nat) (j:Bool) (m:List D) (o p:Int) (q:Bool) (u:List D) (w:Bool) (y C:Nat) (F G I:D) (J:Bool) (L:List D) (N:Bool) (O:List D) (Q:D)
def st69_19 (M:Nat):S69_19→(S69_19→Option D)→(X69_19→Option D)→Option D
 | ⟨m,f,o,p,q,u,w,y,C,F,G,I,J,L,N,O,Q,R,S,U,W⟩,rec,K=>(cond (ltI p o.i) (bd (F155.s FUEL W.s 400) fun g=>(cond (!(g.at 2).b) (some (D.tup [(da [(dl false []),(di 0),(di 0)]),(dl false []),(db false)])) (bd (F121.s FUEL (g.at 0).s) fun j=>(cond (!(j.at 2).b) (some (D.tup [(da [(dl false []),(di 0),(di 0)]),(dl false []),(db false)])) (cond (!(eqS (j.at 1).s (bs []))) (some (D.tup [(da [(dl false []),(di 0),(di 0)]),(dl false []),(db false)])) (cond (mx (f+1)) (rec ⟨0,(f+1),o,(ad .i64 p 1),q,u,w,y,C,F,G,I,J,L,N,O,Q,R,(S||true),(ap ((U.drop m).take f) [(j.at 0)]),(g.at 1)⟩) none)))))) (K (.e0 m f q u w y C F G I J L N O Q R S U W)))
def ex69_19 (k:Kont):X69_19→Option D
 | .e0 f g j m o p q u w y C F G I J L N O Q=>k (.exit 4) ((us 2 ((.ptr 3 [] k0_)::(.sref 6 f g)::(us 103 [])))) [(.var k0_ (vk k0_ (da [(dl j m),(di o),(di p)]))),(.var (.slice 32) (vk (.slice 32) (dl q u))),(.var .bool (vb w)),(.var k0_ (.agg k0_ [(.sref 5 y C),(vk (.int .i64) F),(vk (.int .i64) G)])),(.var k2_ (vk k2_ (da [I]))),(.row 68 true J L),(.row 32 true N O),(.var k2_ (vk k2_ (da [Q])))]
def lv69_19:S69_19→List Leaf
 | ⟨f,g,j,m,o,p,q,u,w,y,C,F,G,I,J,L,N,O,Q,R,S⟩=>[.n f,.n g,.d j,.i m,.b o,.l p,.i q,.i u,.b w,.l y,.b C,.n F,.n G,.d I,.d J,.d L,.b N,.l O,.b Q,.l R,.d S]
def of69_19:List Leaf→Option S69_19
 | [.n f,.n g,.d j,.i m,.b o,.l p,.i q,.i u,.b w,.l y,.b C,.n F,.n G,.d I,.d J,.d L,.b N,.l O,.b Q,.l R,.d S]=>some ⟨f,g,j,m,o,p,q,u,w,y,C,F,G,I,J,L,N,O,Q,R,S⟩
 | _=>none
def ps69_19:List PV:=((up 2 ((.ptr 3 [] k0_)::(.sref 6)::(.ptr 7 [] k2_)::(up 77 ((.d (.int .i64) .x)::(.d (.int .i64) (.int .i64))::(up 23 []))))))
def qs69_19:List PO:=[q1_,q3_,(.var .bool (.d .bool .bool)),q0_,q2_,(.row 68 true),(.row 32 true),q2_]
noncomputable def t (M:Nat):List Ent:=⟨69,11,3,19,sumS [2,3,4,82,83] ps69_19 qs69_19 [(3,6)] of69_19 (st69_19 M) ex69_19 M⟩::t2 M
theorem t_ok (M:Nat):AllOk (e M) (tblOf (t M)):=AllOk.addS (n0:=8) (lv:=lv69_19) (t2_ok M) (by kernel_rfl) rfl (by intro ls s h;unfold of69_19 at h;(repeat' split at h)<;>simp at h;subst h;rfl) (by intro s;kernel_rfl) (by intro s;kernel_rfl) (by intro s nx k;kernel_rfl)
def s (M:Nat) (p0:D) (p1:Int):Option D:=
 (bd (F117.s FUEL p0 0 0 1000) fun N=>(bd (F153.s FUEL N.s) fun f=>(cond (!(f.at 2).b) (some (D.tup [(da [(dl false []),(di 0),(di 0)]),(dl false []),(db false)])) (cond (gtI (f.at 0).i 1125899906842624) (some (D.tup [(da [(dl false []),(di 0),(di 0)]),(dl false []),(db false)])) (bd (F153.s FUEL (f.at 1).s) fun g=>(cond (!(g.at 2).b) (some (D.tup [(da [(dl false []),(di 0),(di 0)]),(dl false []),(db false)])) (cond (gtI (g.at 0).i 1125899906842624) (some (D.tup [(da [(dl false []),(di 0),(di 0)]),(dl false []),(db false)])) (bd (F153.s FUEL (g.at 1).s) fun j=>(cond (!(j.at 2).b) (some (D.tup [(da [(dl false []),(di 0),(di 0)]),(dl false []),(db false)])) (cond (gtI (j.at 0).i 12) (some (D.tup [(da [(dl false []),(di 0),(di 0)]),(dl false []),(db false)])) (bd (F153.s FUEL (j.at 1).s) fun m=>(cond (!(m.at 2).b) (some (D.tup [(da [(dl false []),(di 0),(di 0)]),(dl false []),(db false)])) (cond (gtI (m.at 0).i 400) (some (D.tup [(da [(dl false []),(di 0),(di 0)]),(dl false []),(db false)])) (goS (st69_5 M) M ⟨p0,0,0,(m.at 0),(j.at 0),0,false,[],0,0,false,[],false,0,0,(f.at 0),(g.at 0),(m.at 1),false,[],false,[]⟩ fun x=>match x with | .e0 O Q R S U W X Z aa ab ac ae af ag ah ai aj ak al am=>(bd (F117.s FUEL O 0 1000 4096) fun an=>(goS (st69_19 M) M ⟨Q,R,S,0,U,W,X,Z,aa,ab,ac,ae,af,ag,ah,ai,aj,ak,al,am,an⟩ fun x=>match x with | .e0 o p aq ar au av aw ax ay q u w y az C F G I aA=>(bd (F17.s FUEL (da [(dl C ((F.drop q).take u)),w,y]) (dl G ((I.drop o).take p)) p1) fun J=>(bdB (J.at 1) fun ao=>(cond ao (bd (F70.s FUEL (J.at 0) p0) fun L=>(cond (!L.b) (some (D.tup [(da [(dl false []),(di 0),(di 0)]),(dl false []),(db false)])) (some (D.tup [(da [(dl C ((F.drop q).take u)),w,y]),(dl G ((I.drop o).take p)),L])))) (some (D.tup [(da [(dl false []),(di 0),(di 0)]),(dl false []),(db false)])))))))))))))))))))))
theorem run (M:Nat) (p0:D) (p1:Int):getM (z M) yd (callS (e M) (tblOf (t M)) 12) 1 2 cA cB mk pre co post ([.d (.slice 49) p0,.d (.int .i64) (di p1)]++List.replicate 27 .undef)=s M p0 p1:=by kernel_rfl
def c:Con:={ run:=fun ds=>match ds with | [p0,p1]=>s FUEL p0 p1.i | _=>none }
theorem fnG:Tryz.prog.funcs[68]? = some Tryz.f68:=by kernel_rfl
theorem fnF:Tryz.prog.funcs[22]? = some Tryz.f22:=by kernel_rfl
theorem ok:ConOk (22,c):=by
 intro fn hfn
 obtain rfl:Tryz.f22=fn:=Option.some.inj (fnF.symm.trans hfn)
 refine contract_defer (P:=Tryz.prog) (E:=z FUEL) (Y:=yd) (T:=tblOf (t FUEL)) (d1:=1) (d2:=2) (A:=cA) (B:=cB) (dOps:=dO) (cOps:=cO) (mk:=mk) (df:=df) (co:=co) (pre:=pre) (post:=post) (gn:=Tryz.f68) (e1:=0) (rOps:=rO) (o0:=rO.toList.getD 0 default) (os:=rO.toList.drop 1) (envOk (allCons F17.ok (allCons F70.ok (allCons F117.ok (allCons F121.ok (allCons F153.ok (allCons F155.ok allNil)))))) allNil) rfl hgl (t_ok FUEL) fnF fnF (by kernel_rfl) (by kernel_rfl) ⟨by kernel_rfl,by kernel_rfl,by kernel_rfl⟩ (by kernel_rfl) (by kernel_rfl) fnG fnG (by kernel_rfl) rfl (by kernel_rfl) (by kernel_rfl) (by kernel_rfl) ⟨#[],#[],by kernel_rfl,by kernel_rfl,rfl⟩ (by kernel_rfl) (by kernel_rfl) rfl (by kernel_rfl) (fun ds r hh hr=>?_)
 have hk:Tryz.f22.params.toList.map ty=[(.slice 49),(.int .i64)]:=by kernel_rfl
 replace hh:D.hass ty ds (Tryz.f22.params.toList.map ty):=hh
 rw[hk] at hh
 obtain⟨a,rfl⟩:=hass_args hh
 exact(run FUEL a.1 a.2.1).trans hr
end F22
end Go.AM.SY
