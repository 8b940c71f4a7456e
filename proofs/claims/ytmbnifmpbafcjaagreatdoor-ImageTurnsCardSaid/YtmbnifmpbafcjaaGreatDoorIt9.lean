/- Part 9 of the proof: the abstract machine, what the functions compute, and plain laws over that. -/
import Derived.Test.YtmbnifmpbafcjaaGreatDoorIt8
set_option linter.all false
set_option linter.unusedSimpArgs false
set_option linter.unusedVariables false
set_option linter.unusedSectionVars false
namespace Go.AM.SY
open Go Go.AM Go.Proofs Go.RowKit
namespace F117
def k0_:K:=(.struct [111,108])
def cons:List (Nat×Con):=[]
def exts:List (Nat×Ext):=[(62,stringX (.struct [111,108])),(109,copyCheckX (.struct [111,108]) 5)]
def h:List (Nat×Nat×Hint):=[(117,3,{ live:=[1,2,3,9,12,13,14],rows:=[(1056768,5)],out:=some [9] })]
noncomputable def e (M:Nat):Env:=env cons exts h M
inductive S3 where
 | s0 (i11 i12 i13:Int) (d14:D) (i15 i16:Int) (n17 n18:Nat) (b19:Bool) (l20:List D)
 | s1 (i21 i22 i23:Int) (d24:D) (i25 i26:Int) (n27 n28:Nat) (b29:Bool) (l30:List D)
inductive X3 where
 | e0 (n17 n18:Nat) (b19:Bool) (l20:List D)
 | e1 (n27 n28:Nat) (b29:Bool) (l30:List D)
def st3 (M:Nat):S3→(S3→Option D)→(X3→Option D)→Option D
 | .s0 i11 i12 i13 d14 i15 i16 n17 n18 b19 l20,rec,K=>(cond (ltI i16 i15) (cond (inb i16 d14.elems.length) (cond (eqI ((ix d14.elems i16.toNat).at 1).i i11) (cond (geI ((ix d14.elems i16.toNat).at 0).i i12) (cond (ltI ((ix d14.elems i16.toNat).at 0).i i13) (cond (mx (n18+(bytesOf ((ix d14.elems i16.toNat).at 2).s).length)) (rec (.s1 i11 i12 i13 d14 i15 (ad .i64 i16 1) 0 (n18+(bytesOf ((ix d14.elems i16.toNat).at 2).s).length) (b19||(!(bytesOf ((ix d14.elems i16.toNat).at 2).s).isEmpty)) (ap ((l20.drop n17).take n18) (bytesOf ((ix d14.elems i16.toNat).at 2).s)))) none) (rec (.s0 i11 i12 i13 d14 i15 (ad .i64 i16 1) n17 n18 b19 l20))) (rec (.s0 i11 i12 i13 d14 i15 (ad .i64 i16 1) n17 n18 b19 l20))) (rec (.s0 i11 i12 i13 d14 i15 (ad .i64 i16 1) n17 n18 b19 l20))) none) (K (.e0 n17 n18 b19 l20)))
 | .s1 i21 i22 i23 d24 i25 i26 n27 n28 b29 l30,rec,K=>(cond (ltI i26 i25) (cond (inb i26 d24.elems.length) (cond (eqI ((ix d24.elems i26.toNat).at 1).i i21) (cond (geI ((ix d24.elems i26.toNat).at 0).i i22) (cond (ltI ((ix d24.elems i26.toNat).at 0).i i23) (cond (mx (n28+(bytesOf ((ix d24.elems i26.toNat).at 2).s).length)) (rec (.s1 i21 i22 i23 d24 i25 (ad .i64 i26 1) 0 (n28+(bytesOf ((ix d24.elems i26.toNat).at 2).s).length) (b29||(!(bytesOf ((ix d24.elems i26.toNat).at 2).s).isEmpty)) (ap ((l30.drop n27).take n28) (bytesOf ((ix d24.elems i26.toNat).at 2).s)))) none) (rec (.s1 i21 i22 i23 d24 i25 (ad .i64 i26 1) n27 n28 b29 l30))) (rec (.s1 i21 i22 i23 d24 i25 (ad .i64 i26 1) n27 n28 b29 l30))) (rec (.s1 i21 i22 i23 d24 i25 (ad .i64 i26 1) n27 n28 b29 l30))) none) (K (.e1 n27 n28 b29 l30)))
def ex3 (k:Kont):X3→Option D
 | .e0 n17 n18 b19 l20=>k (.exit 0) ((us 9 ((.ptr 0 [] k0_)::(us 29 [])))) [(.var k0_ (.agg k0_ [(vk (.ptr 113) D.nilPtr),(.sref 1 n17 n18)])),(.row 5 true b19 l20)]
 | .e1 n27 n28 b29 l30=>k (.exit 0) ((us 9 ((.ptr 0 [] k0_)::(us 29 [])))) [(.var k0_ (.agg k0_ [(.ptr 0 [] k0_),(.sref 1 n27 n28)])),(.row 5 true b29 l30)]
def of3_0:List Leaf→Option S3
 | [.i i11,.i i12,.i i13,.d d14,.i i15,.i i16,.n n17,.n n18,.b b19,.l l20]=>some (.s0 i11 i12 i13 d14 i15 i16 n17 n18 b19 l20)
 | _=>none
def ps3_0:List PV:=((up 1 ((.d (.int .i64) (.int .i64))::(.d (.int .i64) (.int .i64))::(.d (.int .i64) (.int .i64))::(up 5 ((.ptr 0 [] k0_)::(up 2 ((.d (.slice 49) .x)::(.d (.int .i64) (.int .i64))::(.d (.int .i64) (.int .i64))::(up 24 []))))))))
def qs3_0:List PO:=[(.var k0_ (.agg k0_ [(.d (.ptr 113) .nilPtr),(.sref 1)])),(.row 5 true)]
def of3_1:List Leaf→Option S3
 | [.i i21,.i i22,.i i23,.d d24,.i i25,.i i26,.n n27,.n n28,.b b29,.l l30]=>some (.s1 i21 i22 i23 d24 i25 i26 n27 n28 b29 l30)
 | _=>none
def ps3_1:List PV:=((up 1 ((.d (.int .i64) (.int .i64))::(.d (.int .i64) (.int .i64))::(.d (.int .i64) (.int .i64))::(up 5 ((.ptr 0 [] k0_)::(up 2 ((.d (.slice 49) .x)::(.d (.int .i64) (.int .i64))::(.d (.int .i64) (.int .i64))::(up 24 []))))))))
def qs3_1:List PO:=[(.var k0_ (.agg k0_ [(.ptr 0 [] k0_),(.sref 1)])),(.row 5 true)]
def vv3:S3→List V×List AObj
 | .s0 i11 i12 i13 d14 i15 i16 n17 n18 b19 l20=>((fillVs ps3_0 [.i i11,.i i12,.i i13,.d d14,.i i15,.i i16,.n n17,.n n18,.b b19,.l l20]).1,(fillOs qs3_0 (fillVs ps3_0 [.i i11,.i i12,.i i13,.d d14,.i i15,.i i16,.n n17,.n n18,.b b19,.l l20]).2).1)
 | .s1 i21 i22 i23 d24 i25 i26 n27 n28 b29 l30=>((fillVs ps3_1 [.i i21,.i i22,.i i23,.d d24,.i i25,.i i26,.n n27,.n n28,.b b29,.l l30]).1,(fillOs qs3_1 (fillVs ps3_1 [.i i21,.i i22,.i i23,.d d24,.i i25,.i i26,.n n27,.n n28,.b b29,.l l30]).2).1)
noncomputable def su3 (M:Nat):Sum:=sumJ [1,2,3,9,12,13,14] [⟨ps3_0,qs3_0,of3_0⟩,⟨ps3_1,qs3_1,of3_1⟩] [(1056768,1)] (st3 M) ex3 M noSum
noncomputable def t (M:Nat):List Ent:=⟨117,11,0,3,su3 M⟩::[]
theorem t_ok (M:Nat):AllOk (e M) (tblOf (t M)):=AllOk.addJ (n0:=2) AllOk.nil (fun s=>(vv3 s).1) (fun s=>(vv3 s).2) (by kernel_rfl) rfl (.inl rfl) ⟨by intro ls s h;replace h:of3_0 ls=some s:=h;unfold of3_0 at h;(repeat' split at h)<;>simp at h;subst h;exact⟨by kernel_rfl,by kernel_rfl⟩,by intro ls s h;replace h:of3_1 ls=some s:=h;unfold of3_1 at h;(repeat' split at h)<;>simp at h;subst h;exact⟨by kernel_rfl,by kernel_rfl⟩,trivial⟩ (by intro s;cases s<;>kernel_rfl) (by intro s;cases s<;>kernel_rfl) (by intro s nx k;cases s<;>kernel_rfl)
def s (M:Nat) (p0:D) (p1:Int) (p2:Int) (p3:Int):Option D:=
 (goS (st3 M) M (.s0 p1 p2 p3 p0 (nI p0.elems.length) 0 0 0 false []) fun x=>match x with | .e0 n17 n18 b19 l20=>(cond (true&&((bif b19 then (decide (0<n18)) else true)&&(mx n18))) (some (dS (ofBytes ((l20.drop n17).take n18)))) none) | .e1 n27 n28 b29 l30=>(cond (true&&((bif b29 then (decide (0<n28)) else true)&&(mx n28))) (some (dS (ofBytes ((l30.drop n27).take n28)))) none))
theorem run (M:Nat) (p0:D) (p1:Int) (p2:Int) (p3:Int):callS (e M) (tblOf (t M)) 12 (.fn 117) [.d (.slice 49) p0,.d (.int .i64) (di p1),.d (.int .i64) (di p2),.d (.int .i64) (di p3)] [] (fun v H=>finish ty [9] v H)=s M p0 p1 p2 p3:=by kernel_rfl
def c:Con:={ run:=fun ds=>match ds with | [p0,p1,p2,p3]=>s FUEL p0 p1.i p2.i p3.i | _=>none,plain:=true }
theorem ok:ConOk (117,c):=mkC Tryz.f117 [(.slice 49),(.int .i64),(.int .i64),(.int .i64)] [9] (by kernel_rfl) (by kernel_rfl) (by kernel_rfl) (by kernel_rfl) allNil (allCons string_ok (allCons copyCheck_ok allNil)) (t_ok FUEL) fun a=>run FUEL a.1 a.2.1 a.2.2.1 a.2.2.2.1
end F117
namespace F204
def k0_:K:=(.struct [3,9,4])
def cons:List (Nat×Con):=[]
def exts:List (Nat×Ext):=[]
def h:List (Nat×Nat×Hint):=[(204,3,{ live:=[0,2,3,7,8],out:=some [2] })]
noncomputable def e (M:Nat):Env:=env cons exts h M
structure S3 where
 (s1:ByteArray) (i2 i3 i4 i5:Int) (s6:ByteArray) (b7:Bool)
inductive X3 where
 | e0 (s1:ByteArray) (i2 i4:Int) (r8:D)
 | e1 (s1:ByteArray) (i2 i4:Int) (r8:D)
 | e2 (s1:ByteArray) (i2 i4:Int) (r8:D)
 | e3 (i5:Int) (s6:ByteArray) (b7:Bool)
def st3 (M:Nat):S3→(S3→Option D)→(X3→Option D)→Option D
 | ⟨s1,i2,i3,i4,i5,s6,b7⟩,rec,K=>(cond (ltI i4 i3) (cond (inb i4 s1.size) (bd (if (ml .i64 7 i4)<0 then none else some (.int .i64 (shlI .i64 (cv .i64 (andI .u8 (byteAt s1 i4.toNat) 127)) (ml .i64 7 i4).toNat))) fun r8=>(cond (inb i4 s1.size) (cond (ltI (byteAt s1 i4.toNat) 128) (cond ((leI 0 (ad .i64 i4 1))&&(leI (ad .i64 i4 1) (nI s1.size))&&(leI (nI s1.size) (nI s1.size))&&(leI (nI s1.size) (nI s1.size))) (cond (leI (orI .i64 i2 r8.i) 1125899906842624) (cond (eqI i4 0) (K (.e0 s1 i2 i4 r8)) (cond (inb i4 s1.size) (K (.e1 s1 i2 i4 r8)) none)) (K (.e2 s1 i2 i4 r8))) none) (rec ⟨s1,(orI .i64 i2 r8.i),i3,(ad .i64 i4 1),i5,s6,b7⟩)) none)) none) (K (.e3 i5 s6 b7)))
def ex3 (k:Kont):X3→Option D
 | .e0 s1 i2 i4 r8=>k .ret ((us 2 ((.ptr 0 [] k0_)::(us 42 [])))) [(.var k0_ (vk k0_ (da [(di (orI .i64 i2 r8.i)),(dS (s1.extract (ad .i64 i4 1).toNat s1.size)),(db true)])))]
 | .e1 s1 i2 i4 r8=>k .ret ((us 2 ((.ptr 0 [] k0_)::(us 42 [])))) [(.var k0_ (vk k0_ (da [(di (orI .i64 i2 r8.i)),(dS (s1.extract (ad .i64 i4 1).toNat s1.size)),(db (gtI (byteAt s1 i4.toNat) 0))])))]
 | .e2 s1 i2 i4 r8=>k .ret ((us 2 ((.ptr 0 [] k0_)::(us 42 [])))) [(.var k0_ (vk k0_ (da [(di (orI .i64 i2 r8.i)),(dS (s1.extract (ad .i64 i4 1).toNat s1.size)),(db false)])))]
 | .e3 i5 s6 b7=>k (.exit 0) ((us 2 ((.ptr 0 [] k0_)::(us 42 [])))) [(.var k0_ (vk k0_ (da [(di i5),(dS s6),(db b7)])))]
def lv3:S3→List Leaf
 | ⟨s1,i2,i3,i4,i5,s6,b7⟩=>[.s s1,.i i2,.i i3,.i i4,.i i5,.s s6,.b b7]
def of3:List Leaf→Option S3
 | [.s s1,.i i2,.i i3,.i i4,.i i5,.s s6,.b b7]=>some ⟨s1,i2,i3,i4,i5,s6,b7⟩
 | _=>none
def ps3:List PV:=((.d .str .str)::(up 1 ((.ptr 0 [] k0_)::(.d (.int .i64) (.int .i64))::(up 3 ((.d (.int .i64) (.int .i64))::(.d (.int .i64) (.int .i64))::(up 36 []))))))
def qs3:List PO:=[(.var k0_ (.d k0_ (.agg [(.int .i64),.str,.bool])))]
noncomputable def t (M:Nat):List Ent:=⟨204,11,0,3,sumS [0,2,3,7,8] ps3 qs3 [] of3 (st3 M) ex3 M⟩::[]
theorem t_ok (M:Nat):AllOk (e M) (tblOf (t M)):=AllOk.addS (n0:=1) (lv:=lv3) AllOk.nil (by kernel_rfl) rfl (by intro ls s h;unfold of3 at h;(repeat' split at h)<;>simp at h;subst h;rfl) (by intro s;kernel_rfl) (by intro s;kernel_rfl) (by intro s nx k;kernel_rfl)
def s (M:Nat) (p0:ByteArray):Option D:=
 (goS (st3 M) M ⟨p0,0,(mini (nI p0.size) 8),0,0,(bs []),false⟩ fun x=>match x with | .e0 s1 i2 i4 r8=>(some (da [(di (orI .i64 i2 r8.i)),(dS (s1.extract (ad .i64 i4 1).toNat s1.size)),(db true)])) | .e1 s1 i2 i4 r8=>(some (da [(di (orI .i64 i2 r8.i)),(dS (s1.extract (ad .i64 i4 1).toNat s1.size)),(db (gtI (byteAt s1 i4.toNat) 0))])) | .e2 s1 i2 i4 r8=>(some (da [(di (orI .i64 i2 r8.i)),(dS (s1.extract (ad .i64 i4 1).toNat s1.size)),(db false)])) | .e3 i5 s6 b7=>(some (da [(di 0),(dS (bs [])),(db false)])))
theorem run (M:Nat) (p0:ByteArray):callS (e M) (tblOf (t M)) 12 (.fn 204) [.d .str (dS p0)] [] (fun v H=>finish ty [294] v H)=s M p0:=by kernel_rfl
def c:Con:={ run:=fun ds=>match ds with | [p0]=>s FUEL p0.s | _=>none,plain:=true }
theorem ok:ConOk (204,c):=mkC Tryz.f204 [.str] [294] (by kernel_rfl) (by kernel_rfl) (by kernel_rfl) (by kernel_rfl) allNil allNil (t_ok FUEL) fun a=>run FUEL a.1
end F204
namespace F205
def cons:List (Nat×Con):=[]
def exts:List (Nat×Ext):=[]
def h:List (Nat×Nat×Hint):=[]
noncomputable def e (M:Nat):Env:=env cons exts h M
def s (M:Nat) (p0:D):Option D:=
 (cond (!(p0.at 2).b) (some (D.tup [(di 0),(dS (bs [])),(db false)])) (some (D.tup [(p0.at 0),(p0.at 1),(db true)])))
theorem run (M:Nat) (p0:D):callS (e M) (tblOf []) 12 (.fn 205) [.d (.struct [3,9,4]) p0] [] (fun v H=>finish ty [3,9,4] v H)=s M p0:=by kernel_rfl
def c:Con:={ run:=fun ds=>match ds with | [p0]=>s FUEL p0 | _=>none,plain:=true }
theorem ok:ConOk (205,c):=mkC Tryz.f205 [(.struct [3,9,4])] [3,9,4] (by kernel_rfl) (by kernel_rfl) (by kernel_rfl) (by kernel_rfl) allNil allNil AllOk.nil fun a=>run FUEL a.1
end F205
namespace F153
def cons:List (Nat×Con):=[(204,F204.c),(205,F205.c)]
def exts:List (Nat×Ext):=[]
def h:List (Nat×Nat×Hint):=[]
noncomputable def e (M:Nat):Env:=env cons exts h M
def s (M:Nat) (p0:ByteArray):Option D:=
 (bd (F204.s FUEL p0) fun r1=>(bd (F205.s FUEL r1) fun r2=>(some (D.tup [(r2.at 0),(r2.at 1),(r2.at 2)]))))
theorem run (M:Nat) (p0:ByteArray):callS (e M) (tblOf []) 12 (.fn 153) [.d .str (dS p0)] [] (fun v H=>finish ty [3,9,4] v H)=s M p0:=by kernel_rfl
def c:Con:={ run:=fun ds=>match ds with | [p0]=>s FUEL p0.s | _=>none,plain:=true }
theorem ok:ConOk (153,c):=mkC Tryz.f153 [.str] [3,9,4] (by kernel_rfl) (by kernel_rfl) (by kernel_rfl) (by kernel_rfl) (allCons F204.ok (allCons F205.ok allNil)) allNil AllOk.nil fun a=>run FUEL a.1
end F153
namespace F207
def cons:List (Nat×Con):=[(153,F153.c)]
def exts:List (Nat×Ext):=[]
def h:List (Nat×Nat×Hint):=[]
noncomputable def e (M:Nat):Env:=env cons exts h M
def s (M:Nat) (p0:ByteArray) (p1:Int):Option D:=
 (bd (F153.s FUEL p0) fun r1=>(cond (!(r1.at 2).b) (some (da [(dS (bs [])),(dS (bs [])),(db false)])) (cond (gtI (r1.at 0).i (mini (nI (r1.at 1).s.size) p1)) (some (da [(dS (bs [])),(dS (bs [])),(db false)])) (cond (true&&(leI 0 (r1.at 0).i)&&(leI (r1.at 0).i (nI (r1.at 1).s.size))&&(leI (nI (r1.at 1).s.size) (nI (r1.at 1).s.size))) (cond ((leI 0 (r1.at 0).i)&&(leI (r1.at 0).i (nI (r1.at 1).s.size))&&(leI (nI (r1.at 1).s.size) (nI (r1.at 1).s.size))&&(leI (nI (r1.at 1).s.size) (nI (r1.at 1).s.size))) (some (da [(dS ((r1.at 1).s.extract 0 (r1.at 0).i.toNat)),(dS ((r1.at 1).s.extract (r1.at 0).i.toNat (r1.at 1).s.size)),(db true)])) none) none))))
theorem run (M:Nat) (p0:ByteArray) (p1:Int):callS (e M) (tblOf []) 12 (.fn 207) [.d .str (dS p0),.d (.int .i64) (di p1)] [] (fun v H=>finish ty [301] v H)=s M p0 p1:=by kernel_rfl
def c:Con:={ run:=fun ds=>match ds with | [p0,p1]=>s FUEL p0.s p1.i | _=>none,plain:=true }
theorem ok:ConOk (207,c):=mkC Tryz.f207 [.str,(.int .i64)] [301] (by kernel_rfl) (by kernel_rfl) (by kernel_rfl) (by kernel_rfl) (allCons F153.ok allNil) allNil AllOk.nil fun a=>run FUEL a.1 a.2.1
end F207
namespace F208
def cons:List (Nat×Con):=[]
def exts:List (Nat×Ext):=[]
def h:List (Nat×Nat×Hint):=[]
noncomputable def e (M:Nat):Env:=env cons exts h M
def s (M:Nat) (p0:D):Option D:=
 (cond (!(p0.at 2).b) (some (D.tup [(dS (bs [])),(dS (bs [])),(db false)])) (some (D.tup [(p0.at 0),(p0.at 1),(db true)])))
theorem run (M:Nat) (p0:D):callS (e M) (tblOf []) 12 (.fn 208) [.d (.struct [9,9,4]) p0] [] (fun v H=>finish ty [9,9,4] v H)=s M p0:=by kernel_rfl
def c:Con:={ run:=fun ds=>match ds with | [p0]=>s FUEL p0 | _=>none,plain:=true }
theorem ok:ConOk (208,c):=mkC Tryz.f208 [(.struct [9,9,4])] [9,9,4] (by kernel_rfl) (by kernel_rfl) (by kernel_rfl) (by kernel_rfl) allNil allNil AllOk.nil fun a=>run FUEL a.1
end F208
namespace F155
def cons:List (Nat×Con):=[(207,F207.c),(208,F208.c)]
def exts:List (Nat×Ext):=[]
def h:List (Nat×Nat×Hint):=[]
noncomputable def e (M:Nat):Env:=env cons exts h M
def s (M:Nat) (p0:ByteArray) (p1:Int):Option D:=
 (bd (F207.s FUEL p0 p1) fun r1=>(bd (F208.s FUEL r1) fun r2=>(some (D.tup [(r2.at 0),(r2.at 1),(r2.at 2)]))))
theorem run (M:Nat) (p0:ByteArray) (p1:Int):callS (e M) (tblOf []) 12 (.fn 155) [.d .str (dS p0),.d (.int .i64) (di p1)] [] (fun v H=>finish ty [9,9,4] v H)=s M p0 p1:=by kernel_rfl
def c:Con:={ run:=fun ds=>match ds with | [p0,p1]=>s FUEL p0.s p1.i | _=>none,plain:=true }
theorem ok:ConOk (155,c):=mkC Tryz.f155 [.str,(.int .i64)] [9,9,4] (by kernel_rfl) (by kernel_rfl) (by kernel_rfl) (by kernel_rfl) (allCons F207.ok (allCons F208.ok allNil)) allNil AllOk.nil fun a=>run FUEL a.1 a.2.1
end F155
namespace F172
def cons:List (Nat×Con):=[]
def exts:List (Nat×Ext):=[]
def h:List (Nat×Nat×Hint):=[]
noncomputable def e (M:Nat):Env:=env cons exts h M
def s (M:Nat)  : Option D:=
 (some (da [(dS (bs [99,114,101,97,116,101])),(dS (bs [97,112,112,101,110,100])),(dS (bs [115,101,97,108])),(dS (bs [101,120,116,101,110,100])),(dS (bs [104,111,108,100])),(dS (bs [114,101,108,101,97,115,101])),(dS (bs [100,101,108,101,116,101])),(dS (bs [116,105,99,107]))]))
theorem run (M:Nat)  : callS (e M) (tblOf []) 12 (.fn 172) [] [] (fun v H=>finish ty [253] v H)=s M  := by kernel_rfl
def c:Con:={ run:=fun ds=>match ds with | []=>s FUEL  | _=>none,plain:=true }
theorem ok:ConOk (172,c):=mkC Tryz.f172 [] [253] (by kernel_rfl) (by kernel_rfl) (by kernel_rfl) (by kernel_rfl) allNil allNil AllOk.nil fun _=>run FUEL
end F172
namespace F206
def cons:List (Nat×Con):=[]
def exts:List (Nat×Ext):=[]
def h:List (Nat×Nat×Hint):=[]
noncomputable def e (M:Nat):Env:=env cons exts h M
def s (M:Nat) (p0:D):Option D:=
 (cond (!(p0.at 2).b) (some (D.tup [(da (rp 32 (D.int .u8 0))),(dS (bs [])),(db false)])) (some (D.tup [(p0.at 0),(p0.at 1),(db true)])))
theorem run (M:Nat) (p0:D):callS (e M) (tblOf []) 12 (.fn 206) [.d (.struct [30,9,4]) p0] [] (fun v H=>finish ty [30,9,4] v H)=s M p0:=by kernel_rfl
def c:Con:={ run:=fun ds=>match ds with | [p0]=>s FUEL p0 | _=>none,plain:=true }
theorem ok:ConOk (206,c):=mkC Tryz.f206 [(.struct [30,9,4])] [30,9,4] (by kernel_rfl) (by kernel_rfl) (by kernel_rfl) (by kernel_rfl) allNil allNil AllOk.nil fun a=>run FUEL a.1
end F206
namespace F154
def cons:List (Nat×Con):=[(206,F206.c)]
def exts:List (Nat×Ext):=[]
def h:List (Nat×Nat×Hint):=[]
noncomputable def e (M:Nat):Env:=env cons exts h M
def s (M:Nat) (p0:ByteArray):Option D:=
 (cond (ltI (nI p0.size) 32) (bd (F206.s FUEL (da [(da (rp 32 (D.int .u8 0))),(dS (bs [])),(db false)])) fun r1=>(some (D.tup [(r1.at 0),(r1.at 1),(r1.at 2)]))) (cond (true&&true&&(leI 32 (nI p0.size))&&(leI (nI p0.size) (nI p0.size))) (cond (mx (p0.extract 0 32).size) (cond ((Nat.beq (p0.extract 0 32).size 32)&&(Nat.beq (bytesOf (p0.extract 0 32)).length 32)) (cond (true&&(leI 32 (nI p0.size))&&(leI (nI p0.size) (nI p0.size))&&(leI (nI p0.size) (nI p0.size))) (bd (F206.s FUEL (da [(D.agg (bytesOf (p0.extract 0 32))),(dS (p0.extract 32 p0.size)),(db true)])) fun r2=>(some (D.tup [(r2.at 0),(r2.at 1),(r2.at 2)]))) none) none) none) none))
theorem run (M:Nat) (p0:ByteArray):callS (e M) (tblOf []) 12 (.fn 154) [.d .str (dS p0)] [] (fun v H=>finish ty [30,9,4] v H)=s M p0:=by kernel_rfl
def c:Con:={ run:=fun ds=>match ds with | [p0]=>s FUEL p0.s | _=>none,plain:=true }
theorem ok:ConOk (154,c):=mkC Tryz.f154 [.str] [30,9,4] (by kernel_rfl) (by kernel_rfl) (by kernel_rfl) (by kernel_rfl) (allCons F206.ok allNil) allNil AllOk.nil fun a=>run FUEL a.1
end F154
namespace F173
def cons:List (Nat×Con):=[(153,F153.c),(154,F154.c),(155,F155.c)]
def exts:List (Nat×Ext):=[]
def h:List (Nat×Nat×Hint):=[]
noncomputable def e (M:Nat):Env:=env cons exts h M
def s (M:Nat) (p0:D) (p1:ByteArray):Option D:=
 (cond (isT 246 p0) (bd (F155.s FUEL p1 100) fun r1=>(some (D.tup [(D.iface 246 (r1.at 0)),(r1.at 1),(r1.at 2)]))) (cond (isT 250 p0) (bd (F154.s FUEL p1) fun r2=>(some (D.tup [(D.iface 250 (r2.at 0)),(r2.at 1),(r2.at 2)]))) (bd (F153.s FUEL p1) fun r3=>(some (D.tup [(D.iface 249 (r3.at 0)),(r3.at 1),(r3.at 2)])))))
theorem run (M:Nat) (p0:D) (p1:ByteArray):callS (e M) (tblOf []) 12 (.fn 173) [.d (.iface true) p0,.d .str (dS p1)] [] (fun v H=>finish ty [183,9,4] v H)=s M p0 p1:=by kernel_rfl
def c:Con:={ run:=fun ds=>match ds with | [p0,p1]=>s FUEL p0 p1.s | _=>none }
theorem ok:ConOk (173,c):=mkC Tryz.f173 [(.iface true),.str] [183,9,4] (by kernel_rfl) (by kernel_rfl) (by kernel_rfl) (by kernel_rfl) (allCons F153.ok (allCons F154.ok (allCons F155.ok allNil))) allNil AllOk.nil fun a=>run FUEL a.1 a.2.1
end F173
namespace F121
def k0_:K:=(.struct [28,3,9,3,3,30])
def cons:List (Nat×Con):=[(107,F107.c),(108,F108f.c),(153,F153.c),(166,F166.c),(172,F172.c),(173,F173.c)]
def exts:List (Nat×Ext):=[]
def h:List (Nat×Nat×Hint):=[(121,7,{ live:=[2,6,8,9,32,33],out:=some [2,3,4,6,8,9] })]
noncomputable def e (M:Nat):Env:=env cons exts h M
structure S7 where
 (d4 d5:D) (n6 n7:Nat) (i8 i9 i10 i11:Int) (s12:ByteArray) (i13 i14:Int) (d15:D) (b16:Bool) (l17:List D)
inductive X7 where
 | e0 (d5:D) (n6 n7:Nat) (i9:Int) (b16:Bool) (l17:List D) (r18:D)
 | e1 (d4 d5:D) (n6 n7:Nat) (i10 i11:Int) (s12:ByteArray) (i13 i14:Int) (d15:D) (b16:Bool) (l17:List D)
def st7 (M:Nat):S7→(S7→Option D)→(X7→Option D)→Option D
 | ⟨d4,d5,n6,n7,i8,i9,i10,i11,s12,i13,i14,d15,b16,l17⟩,rec,K=>(cond (ltI i9 i8) (cond (inb i9 n7) (bd (F173.s FUEL (ix l17 (n6+i9.toNat)) d4.s) fun r18=>(cond (inb i9 n7) (cond (!(r18.at 2).b) (K (.e0 d5 n6 n7 i9 b16 l17 r18)) (rec ⟨(r18.at 1),d5,n6,n7,i8,(ad .i64 i9 1),i10,i11,s12,i13,i14,d15,b16,(l17.set (n6+i9.toNat) (r18.at 0))⟩)) none)) none) (K (.e1 d4 d5 n6 n7 i10 i11 s12 i13 i14 d15 b16 l17)))
def ex7 (k:Kont):X7→Option D
 | .e0 d5 n6 n7 i9 b16 l17 r18=>k .ret ((us 2 ((.ptr 0 [] k0_)::(vS (bs []))::(vb false)::(us 1 ((vk .str (r18.at 1))::(us 1 ((vk (.int .i64) d5)::(.sref 1 n6 n7)::(us 52 [])))))))) [(.var k0_ (vk k0_ (da [(di 0),(di 0),(dS (bs [])),(di 0),(di 0),(da (rp 32 (D.int .u8 0)))]))),(.row 183 true b16 (l17.set (n6+i9.toNat) (r18.at 0)))]
 | .e1 d4 d5 n6 n7 i10 i11 s12 i13 i14 d15 b16 l17=>k (.exit 0) ((us 2 ((.ptr 0 [] k0_)::(us 3 ((vk .str d4)::(us 1 ((vk (.int .i64) d5)::(.sref 1 n6 n7)::(us 52 [])))))))) [(.var k0_ (vk k0_ (da [(di i10),(di i11),(dS s12),(di i13),(di i14),d15]))),(.row 183 true b16 l17)]
def lv7:S7→List Leaf
 | ⟨d4,d5,n6,n7,i8,i9,i10,i11,s12,i13,i14,d15,b16,l17⟩=>[.d d4,.d d5,.n n6,.n n7,.i i8,.i i9,.i i10,.i i11,.s s12,.i i13,.i i14,.d d15,.b b16,.l l17]
def of7:List Leaf→Option S7
 | [.d d4,.d d5,.n n6,.n n7,.i i8,.i i9,.i i10,.i i11,.s s12,.i i13,.i i14,.d d15,.b b16,.l l17]=>some ⟨d4,d5,n6,n7,i8,i9,i10,i11,s12,i13,i14,d15,b16,l17⟩
 | _=>none
def ps7:List PV:=((up 2 ((.ptr 0 [] k0_)::(up 3 ((.d .str .x)::(up 1 ((.d (.int .i64) .x)::(.sref 1)::(up 22 ((.d (.int .i64) (.int .i64))::(.d (.int .i64) (.int .i64))::(up 28 []))))))))))
def qs7:List PO:=[(.var k0_ (.d k0_ (.agg [(.int .i64),(.int .i64),.str,(.int .i64),(.int .i64),.x]))),(.row 183 true)]
noncomputable def t (M:Nat):List Ent:=⟨121,11,0,7,sumS [2,6,8,9,32,33] ps7 qs7 [] of7 (st7 M) ex7 M⟩::[]
theorem t_ok (M:Nat):AllOk (e M) (tblOf (t M)):=AllOk.addS (n0:=2) (lv:=lv7) AllOk.nil (by kernel_rfl) rfl (by intro ls s h;unfold of7 at h;(repeat' split at h)<;>simp at h;subst h;rfl) (by intro s;kernel_rfl) (by intro s;kernel_rfl) (by intro s nx k;kernel_rfl)
def s (M:Nat) (p0:ByteArray):Option D:=
 (bd (F153.s FUEL p0) fun r1=>(cond (!(r1.at 2).b) (some (D.tup [(da [(di 0),(di 0),(dS (bs [])),(di 0),(di 0),(da (rp 32 (D.int .u8 0)))]),(dS (bs [])),(db false)])) (bd (F172.s FUEL) fun r2=>(cond (geI (r1.at 0).i 8) (some (D.tup [(da [(di 0),(di 0),(dS (bs [])),(di 0),(di 0),(da (rp 32 (D.int .u8 0)))]),(dS (bs [])),(db false)])) (bd (F108f.s FUEL (da [(r1.at 0),(di 0),(dS (bs [])),(di 0),(di 0),(da (rp 32 (D.int .u8 0)))])) fun r3=>(goS (st7 M) M ⟨(r1.at 1),(r1.at 0),0,r3.elems.length,(nI r3.elems.length),0,0,0,(bs []),0,0,(da (rp 32 (D.int .u8 0))),r3.nn,r3.elems⟩ fun x=>match x with | .e0 d5 n6 n7 i9 b16 l17 r18=>(some (D.tup [(da [(di 0),(di 0),(dS (bs [])),(di 0),(di 0),(da (rp 32 (D.int .u8 0)))]),(dS (bs [])),(db false)])) | .e1 d4 d5 n6 n7 i10 i11 s12 i13 i14 d15 b16 l17=>(bd (F166.s FUEL d5.i (dl b16 ((l17.drop n6).take n7))) fun r19=>(bd (F107.s FUEL r19) fun r20=>(cond (!r20.b) (some (D.tup [(da [(di 0),(di 0),(dS (bs [])),(di 0),(di 0),(da (rp 32 (D.int .u8 0)))]),(dS (bs [])),(db false)])) (some (D.tup [r19,d4,(db true)])))))))))))
theorem run (M:Nat) (p0:ByteArray):callS (e M) (tblOf (t M)) 12 (.fn 121) [.d .str (dS p0)] [] (fun v H=>finish ty [32,9,4] v H)=s M p0:=by kernel_rfl
def c:Con:={ run:=fun ds=>match ds with | [p0]=>s FUEL p0.s | _=>none,plain:=true }
theorem ok:ConOk (121,c):=mkC Tryz.f121 [.str] [32,9,4] (by kernel_rfl) (by kernel_rfl) (by kernel_rfl) (by kernel_rfl) (allCons F107.ok (allCons F108f.ok (allCons F153.ok (allCons F166.ok (allCons F172.ok (allCons F173.ok allNil)))))) allNil (t_ok FUEL) fun a=>run FUEL a.1
end F121
namespace F70
def cons:List (Nat×Con):=[]
def exts:List (Nat×Ext):=[]
def h:List (Nat×Nat×Hint):=[(70,4,{ live:=[0,1,12,13],out:=some [4] })]
noncomputable def e (M:Nat):Env:=env cons exts h M
structure S4 where
 (d1 d2:D) (i3 i4:Int)
inductive X4 where
 | e0
 | e1
def st4 (M:Nat):S4→(S4→Option D)→(X4→Option D)→Option D
 | ⟨d1,d2,i3,i4⟩,rec,K=>(cond (ltI i4 i3) (cond (inb i4 d1.elems.length) (cond (inb i4 d2.elems.length) (bd (match D.eqv ty eqDepth (ix d1.elems i4.toNat) (ix d2.elems i4.toNat) (.struct [3,3,9]) with | some z=>some (.bool (!z)) | none=>none) fun r5=>(cond r5.b (K .e0) (rec ⟨d1,d2,i3,(ad .i64 i4 1)⟩))) none) none) (K .e1))
def ex4 (k:Kont):X4→Option D
 | .e0  => k .ret ((us 4 ((vb false)::(us 21 [])))) []
 | .e1  => k (.exit 0) ((us 26 [])) []
def lv4:S4→List Leaf
 | ⟨d1,d2,i3,i4⟩=>[.d d1,.d d2,.i i3,.i i4]
def of4:List Leaf→Option S4
 | [.d d1,.d d2,.i i3,.i i4]=>some ⟨d1,d2,i3,i4⟩
 | _=>none
def ps4:List PV:=((.d (.slice 49) .x)::(.d (.slice 49) .x)::(up 10 ((.d (.int .i64) (.int .i64))::(.d (.int .i64) (.int .i64))::(up 12 []))))
def qs4:List PO:=[]
noncomputable def t (M:Nat):List Ent:=⟨70,11,0,4,sumS [0,1,12,13] ps4 qs4 [] of4 (st4 M) ex4 M⟩::[]
theorem t_ok (M:Nat):AllOk (e M) (tblOf (t M)):=AllOk.addS (n0:=0) (lv:=lv4) AllOk.nil (by kernel_rfl) rfl (by intro ls s h;unfold of4 at h;(repeat' split at h)<;>simp at h;subst h;rfl) (by intro s;kernel_rfl) (by intro s;kernel_rfl) (by intro s nx k;kernel_rfl)
def s (M:Nat) (p0:D) (p1:D):Option D:=
 (cond (neI (nI p0.elems.length) (nI p1.elems.length)) (some (db false)) (goS (st4 M) M ⟨p0,p1,(nI p0.elems.length),0⟩ fun x=>match x with | .e0  => (some (db false)) | .e1  => (some (db true))))
theorem run (M:Nat) (p0:D) (p1:D):callS (e M) (tblOf (t M)) 12 (.fn 70) [.d (.slice 49) p0,.d (.slice 49) p1] [] (fun v H=>finish ty [4] v H)=s M p0 p1:=by kernel_rfl
def c:Con:={ run:=fun ds=>match ds with | [p0,p1]=>s FUEL p0 p1 | _=>none,plain:=true }
theorem ok:ConOk (70,c):=mkC Tryz.f70 [(.slice 49),(.slice 49)] [4] (by kernel_rfl) (by kernel_rfl) (by kernel_rfl) (by kernel_rfl) allNil allNil (t_ok FUEL) fun a=>run FUEL a.1 a.2.1
end F70
namespace F22
def k0_:K:=(.struct [22,3,3])
def k1_:K:=(.struct [3,9,9,4,3,66])
def k2_:K:=(.struct [9])
def cons:List (Nat×Con):=[(17,F17.c),(70,F70.c),(117,F117.c),(121,F121.c),(153,F153.c),(155,F155.c)]
def exts:List (Nat×Ext):=[]
def h:List (Nat×Nat×Hint):=[(69,5,{ live:=[0,2,3,4,6,26,27],rows:=[(1052675,68),(3,32)],out:=some [0,2,3,6] }),(69,12,{ live:=[0,2,3,4,6,7,26,27,60,61],rows:=[(1073159,9)],out:=some [0,2,3,4,6,7,26,27] }),(69,19,{ live:=[2,3,4,82,83],rows:=[(3,32)],out:=some [2,3] })]
noncomputable def z (M:Nat):Env:=env cons exts h M
noncomputable def bod0:Code:=Tryz.f22.body.getD .skip
noncomputable def gbod0:Code:=Tryz.f68.body.getD .skip
noncomputable def cA:Code:=cHd bod0
noncomputable def dO:Array Oper:=cOp (cHd (cTl bod0))
noncomputable def cO:Array Oper:=cOp (cHd (cTl (cTl bod0)))
noncomputable def cB:Code:=cTl (cTl (cTl bod0))
noncomputable def rO:Array Oper:=cOp (cHd gbod0)
noncomputable def mk:Oper:=dO.toList.getD 0 default
noncomputable def df:Oper:=dO.toList.getD 1 default
noncomputable def pre:List Oper:=cO.toList.take 1
noncomputable def co:Oper:=cO.toList.getD 1 default
noncomputable def post:List Oper:=cO.toList.drop 2
noncomputable def yd:Dfr:=⟨12,22,68,16,rO.toList,cTl gbod0,((.ptr 2 [] .bool)::(.ptr 0 [] (.struct [22,3,3]))::(.ptr 1 [] (.slice 32))::[]),((us 4 ((.ptr 0 [] (.struct [22,3,3]))::(.ptr 1 [] (.slice 32))::(.ptr 2 [] .bool)::(us 22 [])))),[4,5,6],8,Tryz.f22.results.toList,[24,25,4]⟩
def q0_:PO:=(.var k0_ (.agg k0_ [(.sref 5),(.d (.int .i64) .x),(.d (.int .i64) .x)]))
def q1_:PO:=(.var k0_ (.d k0_ (.agg [.slice,(.int .i64),(.int .i64)])))
def q2_:PO:=(.var k2_ (.d k2_ (.agg [.x])))
def q3_:PO:=(.var (.slice 32) (.d (.slice 32) .slice))
noncomputable def e (M:Nat):Env:=panE (z M) yd
structure S69_12 where
 (d35:D) (n36 n37:Nat) (d38 d39:D) (i40:Int) (d41:D) (i42:Int) (b43:Bool) (l44:List D) (i45 i46:Int) (b47:Bool) (l48:List D) (b49:Bool) (n50 n51:Nat) (d52 d53 d54:D) (b55:Bool) (l56:List D) (b57:Bool) (l58:List D) (d59 d60:D) (s61:ByteArray) (b62:Bool) (d63:D) (n64 n65:Nat) (s66:ByteArray) (b67:Bool) (l68:List D)
inductive X69_12 where
 | e0 (d35:D) (n36 n37:Nat) (d38 d39:D) (i40:Int) (b43:Bool) (l44:List D) (i45 i46:Int) (b47:Bool) (l48:List D) (b49:Bool) (n50 n51:Nat) (d52 d53 d54:D) (b55:Bool) (l56:List D) (b57:Bool) (l58:List D) (d59 d60:D) (s61:ByteArray) (b62:Bool) (d63:D) (n64 n65:Nat) (s66:ByteArray) (b67:Bool) (l68:List D)
def st69_12 (M:Nat):S69_12→(S69_12→Option D)→(X69_12→Option D)→Option D
 | ⟨d35,n36,n37,d38,d39,i40,d41,i42,b43,l44,i45,i46,b47,l48,b49,n50,n51,d52,d53,d54,b55,l56,b57,l58,d59,d60,s61,b62,d63,n64,n65,s66,b67,l68⟩,rec,K=>(cond (ltI i42 d41.i) (bd (F155.s FUEL d54.s 100) fun r69=>(cond (!(r69.at 2).b) (some (D.tup [(da [(dl false []),(di 0),(di 0)]),(dl false []),(db false)])) (cond (((Nat.beq n64 n64)&&(Nat.beq n65 n65))&&true) (cond (mx (n65+1)) (rec ⟨d35,n36,n37,d38,d39,i40,d41,(ad .i64 i42 1),b43,l44,i45,i46,b47,l48,b49,n50,n51,d52,d53,(r69.at 1),b55,l56,b57,l58,d59,d60,s61,b62,d63,0,(n65+1),s66,(b67||true),(ap ((l68.drop n64).take n65) [(r69.at 0)])⟩) none) none))) (K (.e0 d35 n36 n37 d38 d39 i40 b43 l44 i45 i46 b47 l48 b49 n50 n51 d52 d53 d54 b55 l56 b57 l58 d59 d60 s61 b62 d63 n64 n65 s66 b67 l68)))
def ex69_12 (k:Kont):X69_12→Option D
 | .e0 d35 n36 n37 d38 d39 i40 b43 l44 i45 i46 b47 l48 b49 n50 n51 d52 d53 d54 b55 l56 b57 l58 d59 d60 s61 b62 d63 n64 n65 s66 b67 l68=>k (.exit 2) ((vk (.slice 49) d35)::(us 1 ((.ptr 3 [] k0_)::(.sref 6 n36 n37)::(.ptr 4 [] k2_)::(us 1 ((vk (.int .i64) d38)::(.ptr 7 [] k1_)::(us 18 ((vk (.int .i64) d39)::(vi i40)::(us 79 [])))))))) [(.var k0_ (vk k0_ (da [(dl b43 l44),(di i45),(di i46)]))),(.var (.slice 32) (vk (.slice 32) (dl b47 l48))),(.var .bool (vb b49)),(.var k0_ (.agg k0_ [(.sref 5 n50 n51),(vk (.int .i64) d52),(vk (.int .i64) d53)])),(.var k2_ (vk k2_ (da [d54]))),(.row 68 true b55 l56),(.row 32 true b57 l58),(.var k1_ (.agg k1_ [(vk (.int .i64) d59),(vk .str d60),(vS s61),(vb b62),(vk (.int .i64) d63),(.sref 9 n64 n65)])),(.var k2_ (vk k2_ (da [(dS s66)]))),(.row 9 true b67 l68)]
def lv69_12:S69_12→List Leaf
 | ⟨d35,n36,n37,d38,d39,i40,d41,i42,b43,l44,i45,i46,b47,l48,b49,n50,n51,d52,d53,d54,b55,l56,b57,l58,d59,d60,s61,b62,d63,n64,n65,s66,b67,l68⟩=>[.d d35,.n n36,.n n37,.d d38,.d d39,.i i40,.d d41,.i i42,.b b43,.l l44,.i i45,.i i46,.b b47,.l l48,.b b49,.n n50,.n n51,.d d52,.d d53,.d d54,.b b55,.l l56,.b b57,.l l58,.d d59,.d d60,.s s61,.b b62,.d d63,.n n64,.n n65,.s s66,.b b67,.l l68]
def of69_12:List Leaf→Option S69_12
 | .d d35::.n n36::.n n37::.d d38::.d d39::.i i40::.d d41::.i i42::.b b43::.l l44::.i i45::.i i46::.b b47::.l l48::.b b49::.n n50::.n n51::.d d52::.d d53::.d d54::.b b55::.l l56::.b b57::.l l58::.d d59::.d d60::.s s61::.b b62::rest2=>(match rest2 with
  | [.d d63,.n n64,.n n65,.s s66,.b b67,.l l68]=>some ⟨d35,n36,n37,d38,d39,i40,d41,i42,b43,l44,i45,i46,b47,l48,b49,n50,n51,d52,d53,d54,b55,l56,b57,l58,d59,d60,s61,b62,d63,n64,n65,s66,b67,l68⟩
  | _=>none)
 | _=>none
def ps69_12:List PV:=((.d (.slice 49) .x)::(up 1 ((.ptr 3 [] k0_)::(.sref 6)::(.ptr 4 [] k2_)::(up 1 ((.d (.int .i64) .x)::(.ptr 7 [] k1_)::(up 18 ((.d (.int .i64) .x)::(.d (.int .i64) (.int .i64))::(up 32 ((.d (.int .i64) .x)::(.d (.int .i64) (.int .i64))::(up 45 []))))))))))
def qs69_12:List PO:=[q1_,q3_,(.var .bool (.d .bool .bool)),q0_,q2_,(.row 68 true),(.row 32 true),(.var k1_ (.agg k1_ [(.d (.int .i64) .x),(.d .str .x),(.d .str .str),(.d .bool .bool),(.d (.int .i64) .x),(.sref 9)])),(.var k2_ (.d k2_ (.agg [.str]))),(.row 9 true)]
noncomputable def t1 (M:Nat):List Ent:=⟨69,11,3,12,sumS [0,2,3,4,6,7,26,27,60,61] ps69_12 qs69_12 [(1073159,9)] of69_12 (st69_12 M) ex69_12 M⟩::[]
theorem t1_ok (M:Nat):AllOk (e M) (tblOf (t1 M)):=AllOk.addS (n0:=10) (lv:=lv69_12) AllOk.nil (by kernel_rfl) rfl (by intro ls s h;unfold of69_12 at h;(repeat' split at h)<;>simp at h;subst h;rfl) (by intro s;kernel_rfl) (by intro s;kernel_rfl) (by intro s nx k;kernel_rfl)
structure S69_5 where
 (d6:D) (n7 n8:Nat) (d9 d10:D) (i11:Int) (b12:Bool) (l13:List D) (i14 i15:Int) (b16:Bool) (l17:List D) (b18:Bool) (n19 n20:Nat) (d21 d22 d23:D) (b24:Bool) (l25:List D) (b26:Bool) (l27:List D)
inductive X69_5 where
 | e0 (d6:D) (n7 n8:Nat) (d9:D) (b12:Bool) (l13:List D) (i14 i15:Int) (b16:Bool) (l17:List D) (b18:Bool) (n19 n20:Nat) (d21 d22 d23:D) (b24:Bool) (l25:List D) (b26:Bool) (l27:List D)
def st69_5 (M:Nat):S69_5→(S69_5→Option D)→(X69_5→Option D)→Option D
 | ⟨d6,n7,n8,d9,d10,i11,b12,l13,i14,i15,b16,l17,b18,n19,n20,d21,d22,d23,b24,l25,b26,l27⟩,rec,K=>(cond (ltI i11 d10.i) (bd (F153.s FUEL d23.s) fun r28=>(cond (!(r28.at 2).b) (some (D.tup [(da [(dl false []),(di 0),(di 0)]),(dl false []),(db false)])) (cond (gtI (r28.at 0).i 134217728) (some (D.tup [(da [(dl false []),(di 0),(di 0)]),(dl false []),(db false)])) (bd (F155.s FUEL (r28.at 1).s 100) fun r29=>(cond (!(r29.at 2).b) (some (D.tup [(da [(dl false []),(di 0),(di 0)]),(dl false []),(db false)])) (bd (F153.s FUEL (r29.at 1).s) fun r30=>(cond (!(r30.at 2).b) (some (D.tup [(da [(dl false []),(di 0),(di 0)]),(dl false []),(db false)])) (cond (gtI (r30.at 0).i 1) (some (D.tup [(da [(dl false []),(di 0),(di 0)]),(dl false []),(db false)])) (bd (F153.s FUEL (r30.at 1).s) fun r31=>(cond (!(r31.at 2).b) (some (D.tup [(da [(dl false []),(di 0),(di 0)]),(dl false []),(db false)])) (cond (gtI (r31.at 0).i 1125899906842624) (some (D.tup [(da [(dl false []),(di 0),(di 0)]),(dl false []),(db false)])) (bd (F117.s FUEL d6 (r28.at 0).i (ml .i64 4096 (r28.at 0).i) (ml .i64 4096 (ad .i64 (r28.at 0).i 1))) fun r32=>(bd (F153.s FUEL (r31.at 1).s) fun r33=>(cond (!(r33.at 2).b) (some (D.tup [(da [(dl false []),(di 0),(di 0)]),(dl false []),(db false)])) (cond (gtI (r33.at 0).i 600) (some (D.tup [(da [(dl false []),(di 0),(di 0)]),(dl false []),(db false)])) (cond (gtI (r33.at 0).i (nI r32.s.size)) (some (D.tup [(da [(dl false []),(di 0),(di 0)]),(dl false []),(db false)])) (cond (true&&(leI 0 (r33.at 0).i)&&(leI (r33.at 0).i (nI r32.s.size))&&(leI (nI r32.s.size) (nI r32.s.size))) (cond ((leI 0 (r33.at 0).i)&&(leI (r33.at 0).i (nI r32.s.size))&&(leI (nI r32.s.size) (nI r32.s.size))&&(leI (nI r32.s.size) (nI r32.s.size))) (bd (F153.s FUEL (r33.at 1).s) fun r34=>(cond (!(r34.at 2).b) (some (D.tup [(da [(dl false []),(di 0),(di 0)]),(dl false []),(db false)])) (cond (gtI (r34.at 0).i 4) (some (D.tup [(da [(dl false []),(di 0),(di 0)]),(dl false []),(db false)])) (goS (st69_12 M) M ⟨d6,n7,n8,d9,d10,i11,(r34.at 0),0,b12,l13,i14,i15,b16,l17,b18,n19,n20,d21,d22,(r34.at 1),b24,l25,b26,l27,(r28.at 0),(r29.at 0),(r32.s.extract 0 (r33.at 0).i.toNat),(eqI (r30.at 0).i 1),(r31.at 0),0,0,(r32.s.extract (r33.at 0).i.toNat r32.s.size),false,[]⟩ fun x=>match x with | .e0 d35 n36 n37 d38 d39 i40 b43 l44 i45 i46 b47 l48 b49 n50 n51 d52 d53 d54 b55 l56 b57 l58 d59 d60 s61 b62 d63 n64 n65 s66 b67 l68=>(cond (mx (n51+1)) (rec ⟨d35,n36,n37,d38,d39,(ad .i64 i40 1),b43,l44,i45,i46,b47,l48,b49,0,(n51+1),d52,d53,d54,(b55||true),(ap ((l56.drop n50).take n51) [(da [d59,d60,(dS s61),(db b62),d63,(dl b67 ((l68.drop n64).take n65))])]),b57,l58⟩) none))))) none) none))))))))))))))))) (K (.e0 d6 n7 n8 d9 b12 l13 i14 i15 b16 l17 b18 n19 n20 d21 d22 d23 b24 l25 b26 l27)))
def ex69_5 (k:Kont):X69_5→Option D
 | .e0 d6 n7 n8 d9 b12 l13 i14 i15 b16 l17 b18 n19 n20 d21 d22 d23 b24 l25 b26 l27=>k (.exit 0) ((vk (.slice 49) d6)::(us 1 ((.ptr 3 [] k0_)::(.sref 6 n7 n8)::(us 2 ((vk (.int .i64) d9)::(us 100 [])))))) [(.var k0_ (vk k0_ (da [(dl b12 l13),(di i14),(di i15)]))),(.var (.slice 32) (vk (.slice 32) (dl b16 l17))),(.var .bool (vb b18)),(.var k0_ (.agg k0_ [(.sref 5 n19 n20),(vk (.int .i64) d21),(vk (.int .i64) d22)])),(.var k2_ (vk k2_ (da [d23]))),(.row 68 true b24 l25),(.row 32 true b26 l27)]
def lv69_5:S69_5→List Leaf
 | ⟨d6,n7,n8,d9,d10,i11,b12,l13,i14,i15,b16,l17,b18,n19,n20,d21,d22,d23,b24,l25,b26,l27⟩=>[.d d6,.n n7,.n n8,.d d9,.d d10,.i i11,.b b12,.l l13,.i i14,.i i15,.b b16,.l l17,.b b18,.n n19,.n n20,.d d21,.d d22,.d d23,.b b24,.l l25,.b b26,.l l27]
def of69_5:List Leaf→Option S69_5
 | [.d d6,.n n7,.n n8,.d d9,.d d10,.i i11,.b b12,.l l13,.i i14,.i i15,.b b16,.l l17,.b b18,.n n19,.n n20,.d d21,.d d22,.d d23,.b b24,.l l25,.b b26,.l l27]=>some ⟨d6,n7,n8,d9,d10,i11,b12,l13,i14,i15,b16,l17,b18,n19,n20,d21,d22,d23,b24,l25,b26,l27⟩
 | _=>none
def ps69_5:List PV:=((.d (.slice 49) .x)::(up 1 ((.ptr 3 [] k0_)::(.sref 6)::(.ptr 4 [] k2_)::(up 1 ((.d (.int .i64) .x)::(up 19 ((.d (.int .i64) .x)::(.d (.int .i64) (.int .i64))::(up 79 []))))))))
def qs69_5:List PO:=[q1_,q3_,(.var .bool (.d .bool .bool)),q0_,q2_,(.row 68 true),(.row 32 true)]
noncomputable def t2 (M:Nat):List Ent:=⟨69,11,3,5,sumS [0,2,3,4,6,26,27] ps69_5 qs69_5 [(1052675,5),(3,6)] of69_5 (st69_5 M) ex69_5 M⟩::t1 M
theorem t2_ok (M:Nat):AllOk (e M) (tblOf (t2 M)):=AllOk.addS (n0:=7) (lv:=lv69_5) (t1_ok M) (by kernel_rfl) rfl (by intro ls s h;unfold of69_5 at h;(repeat' split at h)<;>simp at h;subst h;rfl) (by intro s;kernel_rfl) (by intro s;kernel_rfl) (by intro s nx k;kernel_rfl)
structure S69_19 where
 (n71 n72:Nat) (d73:D) (i74:Int) (b75:Bool) (l76:List D) (i77 i78:Int) (b79:Bool) (l80:List D) (b81:Bool) (n82 n83:Nat) (d84 d85 d86:D) (b87:Bool) (l88:List D) (b89:Bool) (l90:List D) (d91:D)
inductive X69_19 where
 | e0 (n71 n72:Nat) (b75:Bool) (l76:List D) (i77 i78:Int) (b79:Bool) (l80:List D) (b81:Bool) (n82 n83:Nat) (d84 d85 d86:D) (b87:Bool) (l88:List D) (b89:Bool) (l90:List D) (d91:D)
def st69_19 (M:Nat):S69_19→(S69_19→Option D)→(X69_19→Option D)→Option D
 | ⟨n71,n72,d73,i74,b75,l76,i77,i78,b79,l80,b81,n82,n83,d84,d85,d86,b87,l88,b89,l90,d91⟩,rec,K=>(cond (ltI i74 d73.i) (bd (F155.s FUEL d91.s 400) fun r92=>(cond (!(r92.at 2).b) (some (D.tup [(da [(dl false []),(di 0),(di 0)]),(dl false []),(db false)])) (bd (F121.s FUEL (r92.at 0).s) fun r93=>(cond (!(r93.at 2).b) (some (D.tup [(da [(dl false []),(di 0),(di 0)]),(dl false []),(db false)])) (cond (!(eqS (r93.at 1).s (bs []))) (some (D.tup [(da [(dl false []),(di 0),(di 0)]),(dl false []),(db false)])) (cond (mx (n72+1)) (rec ⟨0,(n72+1),d73,(ad .i64 i74 1),b75,l76,i77,i78,b79,l80,b81,n82,n83,d84,d85,d86,b87,l88,(b89||true),(ap ((l90.drop n71).take n72) [(r93.at 0)]),(r92.at 1)⟩) none)))))) (K (.e0 n71 n72 b75 l76 i77 i78 b79 l80 b81 n82 n83 d84 d85 d86 b87 l88 b89 l90 d91)))
def ex69_19 (k:Kont):X69_19→Option D
 | .e0 n71 n72 b75 l76 i77 i78 b79 l80 b81 n82 n83 d84 d85 d86 b87 l88 b89 l90 d91=>k (.exit 4) ((us 2 ((.ptr 3 [] k0_)::(.sref 6 n71 n72)::(us 103 [])))) [(.var k0_ (vk k0_ (da [(dl b75 l76),(di i77),(di i78)]))),(.var (.slice 32) (vk (.slice 32) (dl b79 l80))),(.var .bool (vb b81)),(.var k0_ (.agg k0_ [(.sref 5 n82 n83),(vk (.int .i64) d84),(vk (.int .i64) d85)])),(.var k2_ (vk k2_ (da [d86]))),(.row 68 true b87 l88),(.row 32 true b89 l90),(.var k2_ (vk k2_ (da [d91])))]
def lv69_19:S69_19→List Leaf
 | ⟨n71,n72,d73,i74,b75,l76,i77,i78,b79,l80,b81,n82,n83,d84,d85,d86,b87,l88,b89,l90,d91⟩=>[.n n71,.n n72,.d d73,.i i74,.b b75,.l l76,.i i77,.i i78,.b b79,.l l80,.b b81,.n n82,.n n83,.d d84,.d d85,.d d86,.b b87,.l l88,.b b89,.l l90,.d d91]
def of69_19:List Leaf→Option S69_19
 | [.n n71,.n n72,.d d73,.i i74,.b b75,.l l76,.i i77,.i i78,.b b79,.l l80,.b b81,.n n82,.n n83,.d d84,.d d85,.d d86,.b b87,.l l88,.b b89,.l l90,.d d91]=>some ⟨n71,n72,d73,i74,b75,l76,i77,i78,b79,l80,b81,n82,n83,d84,d85,d86,b87,l88,b89,l90,d91⟩
 | _=>none
def ps69_19:List PV:=((up 2 ((.ptr 3 [] k0_)::(.sref 6)::(.ptr 7 [] k2_)::(up 77 ((.d (.int .i64) .x)::(.d (.int .i64) (.int .i64))::(up 23 []))))))
def qs69_19:List PO:=[q1_,q3_,(.var .bool (.d .bool .bool)),q0_,q2_,(.row 68 true),(.row 32 true),q2_]
noncomputable def t (M:Nat):List Ent:=⟨69,11,3,19,sumS [2,3,4,82,83] ps69_19 qs69_19 [(3,6)] of69_19 (st69_19 M) ex69_19 M⟩::t2 M
theorem t_ok (M:Nat):AllOk (e M) (tblOf (t M)):=AllOk.addS (n0:=8) (lv:=lv69_19) (t2_ok M) (by kernel_rfl) rfl (by intro ls s h;unfold of69_19 at h;(repeat' split at h)<;>simp at h;subst h;rfl) (by intro s;kernel_rfl) (by intro s;kernel_rfl) (by intro s nx k;kernel_rfl)
def s (M:Nat) (p0:D) (p1:Int):Option D:=
 (bd (F117.s FUEL p0 0 0 1000) fun r1=>(bd (F153.s FUEL r1.s) fun r2=>(cond (!(r2.at 2).b) (some (D.tup [(da [(dl false []),(di 0),(di 0)]),(dl false []),(db false)])) (cond (gtI (r2.at 0).i 1125899906842624) (some (D.tup [(da [(dl false []),(di 0),(di 0)]),(dl false []),(db false)])) (bd (F153.s FUEL (r2.at 1).s) fun r3=>(cond (!(r3.at 2).b) (some (D.tup [(da [(dl false []),(di 0),(di 0)]),(dl false []),(db false)])) (cond (gtI (r3.at 0).i 1125899906842624) (some (D.tup [(da [(dl false []),(di 0),(di 0)]),(dl false []),(db false)])) (bd (F153.s FUEL (r3.at 1).s) fun r4=>(cond (!(r4.at 2).b) (some (D.tup [(da [(dl false []),(di 0),(di 0)]),(dl false []),(db false)])) (cond (gtI (r4.at 0).i 12) (some (D.tup [(da [(dl false []),(di 0),(di 0)]),(dl false []),(db false)])) (bd (F153.s FUEL (r4.at 1).s) fun r5=>(cond (!(r5.at 2).b) (some (D.tup [(da [(dl false []),(di 0),(di 0)]),(dl false []),(db false)])) (cond (gtI (r5.at 0).i 400) (some (D.tup [(da [(dl false []),(di 0),(di 0)]),(dl false []),(db false)])) (goS (st69_5 M) M ⟨p0,0,0,(r5.at 0),(r4.at 0),0,false,[],0,0,false,[],false,0,0,(r2.at 0),(r3.at 0),(r5.at 1),false,[],false,[]⟩ fun x=>match x with | .e0 d6 n7 n8 d9 b12 l13 i14 i15 b16 l17 b18 n19 n20 d21 d22 d23 b24 l25 b26 l27=>(bd (F117.s FUEL d6 0 1000 4096) fun r70=>(goS (st69_19 M) M ⟨n7,n8,d9,0,b12,l13,i14,i15,b16,l17,b18,n19,n20,d21,d22,d23,b24,l25,b26,l27,r70⟩ fun x=>match x with | .e0 n71 n72 b75 l76 i77 i78 b79 l80 b81 n82 n83 d84 d85 d86 b87 l88 b89 l90 d91=>(bd (F17.s FUEL (da [(dl b87 ((l88.drop n82).take n83)),d84,d85]) (dl b89 ((l90.drop n71).take n72)) p1) fun r94=>(bdB (r94.at 1) fun g95=>(cond g95 (bd (F70.s FUEL (r94.at 0) p0) fun r96=>(cond (!r96.b) (some (D.tup [(da [(dl false []),(di 0),(di 0)]),(dl false []),(db false)])) (some (D.tup [(da [(dl b87 ((l88.drop n82).take n83)),d84,d85]),(dl b89 ((l90.drop n71).take n72)),r96])))) (some (D.tup [(da [(dl false []),(di 0),(di 0)]),(dl false []),(db false)])))))))))))))))))))))
theorem run (M:Nat) (p0:D) (p1:Int):getM (z M) yd (callS (e M) (tblOf (t M)) 12) 1 2 cA cB mk pre co post ([.d (.slice 49) p0,.d (.int .i64) (di p1)]++List.replicate 27 .undef)=s M p0 p1:=by kernel_rfl
def c:Con:={ run:=fun ds=>match ds with | [p0,p1]=>s FUEL p0 p1.i | _=>none }
theorem fnG:Tryz.prog.funcs[68]? = some Tryz.f68:=by kernel_rfl
theorem fnF:Tryz.prog.funcs[22]? = some Tryz.f22:=by kernel_rfl
theorem ok:ConOk (22,c):=by
 intro fn hfn
 obtain rfl:Tryz.f22=fn:=Option.some.inj (fnF.symm.trans hfn)
 refine contract_defer (P:=Tryz.prog) (E:=z FUEL) (Y:=yd) (T:=tblOf (t FUEL)) (d1:=1) (d2:=2) (A:=cA) (B:=cB) (dOps:=dO) (cOps:=cO) (mk:=mk) (df:=df) (co:=co) (pre:=pre) (post:=post) (gn:=Tryz.f68) (e1:=0) (rOps:=rO) (o0:=rO.toList.getD 0 default) (os:=rO.toList.drop 1) (envOk (allCons F17.ok (allCons F70.ok (allCons F117.ok (allCons F121.ok (allCons F153.ok (allCons F155.ok allNil)))))) allNil) rfl hgl (t_ok FUEL) fnF fnF (by kernel_rfl) (by kernel_rfl) ⟨by kernel_rfl,by kernel_rfl,by kernel_rfl⟩ (by kernel_rfl) (by kernel_rfl) fnG fnG (by kernel_rfl) rfl (by kernel_rfl) (by kernel_rfl) (by kernel_rfl) ⟨#[],#[],by kernel_rfl,by kernel_rfl,rfl⟩ (by kernel_rfl) (by kernel_rfl) rfl (by kernel_rfl) (fun ds r hh hr=>?_)
 have hk:Tryz.f22.params.toList.map ty=[(.slice 49),(.int .i64)]:=by kernel_rfl
 replace hh:D.hass ty ds (Tryz.f22.params.toList.map ty):=hh
 rw[hk] at hh
 obtain⟨a,rfl⟩:=hass_args hh
 exact(run FUEL a.1 a.2.1).trans hr
end F22
end Go.AM.SY
