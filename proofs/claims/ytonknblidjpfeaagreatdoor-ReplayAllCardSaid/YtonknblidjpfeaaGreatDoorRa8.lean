/- Part 8 of the proof: the abstract machine, what the functions compute, and plain laws over that. -/
import Derived.Test.YtonknblidjpfeaaGreatDoorRa7
set_option linter.all false
set_option linter.unusedSimpArgs false
set_option linter.unusedVariables false
set_option linter.unusedSectionVars false
namespace Go.AM.SZ
open Go Go.AM Go.Proofs Go.RowKit
def FUEL:Nat:=1048576
namespace F68
def cons:List (Nat×Con):=[]
def exts:List (Nat×Ext):=[]
def h:List (Nat×Nat×Hint):=[]
noncomputable def e (M:Nat):Env:=env cons exts h M
def s (M:Nat) (p0:D):Option D:=
 (cond (eqI (p0.at 0).i 0) (cond (eqI (p0.at 0).i 0) (some (dl true [(D.iface 160 (p0.at 1)),(D.iface 133 (p0.at 2))])) (cond (eqI (p0.at 0).i 1) (some (dl true [(D.iface 160 (p0.at 1)),(D.iface 160 (p0.at 4))])) (cond (eqI (p0.at 0).i 2) (some (dl true [(D.iface 160 (p0.at 1)),(D.iface 160 (p0.at 3)),(D.iface 160 (p0.at 4)),(D.iface 161 (p0.at 5))])) (cond (eqI (p0.at 0).i 3) (some (dl true [(D.iface 160 (p0.at 1)),(D.iface 160 (p0.at 3))])) (cond (eqI (p0.at 0).i 6) (some (dl true [(D.iface 160 (p0.at 1))])) (cond (eqI (p0.at 0).i 7) (some (dl true [(D.iface 160 (p0.at 3))])) (some (dl false [])))))))) (cond (eqI (p0.at 0).i 4) (cond (eqI (p0.at 0).i 4) (some (dl true [(D.iface 160 (p0.at 1)),(D.iface 133 (p0.at 2))])) (cond (eqI (p0.at 0).i 1) (some (dl true [(D.iface 160 (p0.at 1)),(D.iface 160 (p0.at 4))])) (cond (eqI (p0.at 0).i 2) (some (dl true [(D.iface 160 (p0.at 1)),(D.iface 160 (p0.at 3)),(D.iface 160 (p0.at 4)),(D.iface 161 (p0.at 5))])) (cond (eqI (p0.at 0).i 3) (some (dl true [(D.iface 160 (p0.at 1)),(D.iface 160 (p0.at 3))])) (cond (eqI (p0.at 0).i 6) (some (dl true [(D.iface 160 (p0.at 1))])) (cond (eqI (p0.at 0).i 7) (some (dl true [(D.iface 160 (p0.at 3))])) (some (dl false [])))))))) (cond (eqI (p0.at 0).i 5) (some (dl true [(D.iface 160 (p0.at 1)),(D.iface 133 (p0.at 2))])) (cond (eqI (p0.at 0).i 1) (some (dl true [(D.iface 160 (p0.at 1)),(D.iface 160 (p0.at 4))])) (cond (eqI (p0.at 0).i 2) (some (dl true [(D.iface 160 (p0.at 1)),(D.iface 160 (p0.at 3)),(D.iface 160 (p0.at 4)),(D.iface 161 (p0.at 5))])) (cond (eqI (p0.at 0).i 3) (some (dl true [(D.iface 160 (p0.at 1)),(D.iface 160 (p0.at 3))])) (cond (eqI (p0.at 0).i 6) (some (dl true [(D.iface 160 (p0.at 1))])) (cond (eqI (p0.at 0).i 7) (some (dl true [(D.iface 160 (p0.at 3))])) (some (dl false []))))))))))
theorem run (M:Nat) (p0:D):callS (e M) (tblOf []) 12 (.fn 68) [.d (.struct [50,3,9,3,3,56]) p0] [] (fun v H=>finish ty [128] v H)=s M p0:=by kernel_rfl
def c:Con:={ run:=fun ds=>match ds with | [p0]=>s FUEL p0 | _=>none }
theorem ok:ConOk (68,c):=mkC Tryz.f68 [(.struct [50,3,9,3,3,56])] [128] (by kernel_rfl) (by kernel_rfl) (by kernel_rfl) (by kernel_rfl) allNil allNil AllOk.nil fun a=>run FUEL a.1
end F68
namespace F69
def k0_:K:=(.struct [50,3,9,3,3,56])
def cons:List (Nat×Con):=[]
def exts:List (Nat×Ext):=[]
def h:List (Nat×Nat×Hint):=[(69,4,{ live:=[0,4,5,6,14,15,16],rows:=[(6,3)] })]
noncomputable def e (M:Nat):Env:=env cons exts h M
structure S4 where
 (i21:Int) (n22 n23:Nat) (d24:D) (i25 i26 i27 i28:Int) (s29:ByteArray) (i30 i31:Int) (d32:D) (i33 i34:Int) (d35:D) (i36 i37:Int) (d38:D) (b39:Bool) (l40:List D)
inductive X4 where
 | e0 (i21:Int) (n22 n23:Nat) (d24:D) (i25 i26 i27 i28:Int) (s29:ByteArray) (i30 i31:Int) (d32:D) (i33 i34:Int) (d35:D) (i36 i37:Int) (d38:D) (b39:Bool) (l40:List D)
def st4 (M:Nat):S4→(S4→Option D)→(X4→Option D)→Option D
 | ⟨i21,n22,n23,d24,i25,i26,i27,i28,s29,i30,i31,d32,i33,i34,d35,i36,i37,d38,b39,l40⟩,rec,K=>(cond (ltI i26 i25) (cond (inb i26 d24.elems.length) (cond (isT 160 (ix d24.elems i26.toNat)) (cond (mx (n23+1)) (rec ⟨i21,0,(n23+1),d24,i25,(ad .i64 i26 1),i27,i28,s29,i30,i31,d32,i33,i34,d35,i36,i37,d38,(b39||true),(ap ((l40.drop n22).take n23) [(assertD 160 (di 0) (ix d24.elems i26.toNat))])⟩) none) (cond (isT 133 (ix d24.elems i26.toNat)) (rec ⟨i21,n22,n23,d24,i25,(ad .i64 i26 1),i27,i28,s29,i30,i31,d32,i33,i34,(assertD 133 (dS (bs [])) (ix d24.elems i26.toNat)),i36,i37,d38,b39,l40⟩) (cond (isT 161 (ix d24.elems i26.toNat)) (rec ⟨i21,n22,n23,d24,i25,(ad .i64 i26 1),i27,i28,s29,i30,i31,d32,i33,i34,d35,i36,i37,(assertD 161 (da (rp 32 (D.int .u8 0))) (ix d24.elems i26.toNat)),b39,l40⟩) (rec ⟨i21,n22,n23,d24,i25,(ad .i64 i26 1),i27,i28,s29,i30,i31,d32,i33,i34,d35,i36,i37,d38,b39,l40⟩)))) none) (K (.e0 i21 n22 n23 d24 i25 i26 i27 i28 s29 i30 i31 d32 i33 i34 d35 i36 i37 d38 b39 l40)))
def ex4 (k:Kont):X4→Option D
 | .e0 i21 n22 n23 d24 i25 i26 i27 i28 s29 i30 i31 d32 i33 i34 d35 i36 i37 d38 b39 l40=>k (.exit 0) ((vi i21)::(us 3 ((.ptr 0 [] k0_)::(.ptr 1 [] k0_)::(.sref 2 n22 n23)::(us 7 ((vk (.slice 132) d24)::(vi i25)::(vi i26)::(vb (ltI i26 i25))::(us 56 [])))))) [(.var k0_ (vk k0_ (da [(di i27),(di i28),(dS s29),(di i30),(di i31),d32]))),(.var k0_ (vk k0_ (da [(di i33),(di i34),d35,(di i36),(di i37),d38]))),(.row 3 true b39 l40)]
def lv4:S4→List Leaf
 | ⟨i21,n22,n23,d24,i25,i26,i27,i28,s29,i30,i31,d32,i33,i34,d35,i36,i37,d38,b39,l40⟩=>[.i i21,.n n22,.n n23,.d d24,.i i25,.i i26,.i i27,.i i28,.s s29,.i i30,.i i31,.d d32,.i i33,.i i34,.d d35,.i i36,.i i37,.d d38,.b b39,.l l40]
def of4:List Leaf→Option S4
 | [.i i21,.n n22,.n n23,.d d24,.i i25,.i i26,.i i27,.i i28,.s s29,.i i30,.i i31,.d d32,.i i33,.i i34,.d d35,.i i36,.i i37,.d d38,.b b39,.l l40]=>some ⟨i21,n22,n23,d24,i25,i26,i27,i28,s29,i30,i31,d32,i33,i34,d35,i36,i37,d38,b39,l40⟩
 | _=>none
def ps4:List PV:=((.d (.int .i64) (.int .i64))::(up 3 ((.ptr 0 [] k0_)::(.ptr 1 [] k0_)::(.sref 2)::(up 7 ((.d (.slice 132) .x)::(.d (.int .i64) (.int .i64))::(.d (.int .i64) (.int .i64))::(up 57 []))))))
def qs4:List PO:=[(.var k0_ (.d k0_ (.agg [(.int .i64),(.int .i64),.str,(.int .i64),(.int .i64),.x]))),(.var k0_ (.d k0_ (.agg [(.int .i64),(.int .i64),.x,(.int .i64),(.int .i64),.x]))),(.row 3 true)]
noncomputable def t (M:Nat):List Ent:=⟨69,11,0,4,sumS [0,4,5,6,14,15,16] ps4 qs4 [(6,2)] of4 (st4 M) ex4 M⟩::[]
theorem t_ok (M:Nat):AllOk (e M) (tblOf (t M)):=AllOk.addS (n0:=3) (lv:=lv4) AllOk.nil (by kernel_rfl) rfl (by intro ls s h;unfold of4 at h;(repeat' split at h)<;>simp at h;subst h;rfl) (by intro s;kernel_rfl) (by intro s;kernel_rfl) (by intro s nx k;kernel_rfl)
def s (M:Nat) (p0:Int) (p1:D):Option D:=
 (goS (st4 M) M ⟨p0,0,0,p1,(nI p1.elems.length),0,0,0,(bs []),0,0,(da (rp 32 (D.int .u8 0))),p0,0,(dS (bs [])),0,0,(da (rp 32 (D.int .u8 0))),false,[]⟩ fun x=>match x with | .e0 i21 n22 n23 d24 i25 i26 i27 i28 s29 i30 i31 d32 i33 i34 d35 i36 i37 d38 b39 l40=>(cond (eqI i21 7) (cond (inb 0 n23) (some (da [(di i33),(di i34),d35,(ix l40 (n22+0)),(di i37),d38])) none) (cond (eqI i21 1) (cond (inb 1 n23) (cond (inb 0 n23) (some (da [(di i33),(ix l40 (n22+0)),d35,(di i36),(ix l40 (n22+1)),d38])) none) none) (cond (eqI i21 2) (cond (inb 1 n23) (cond (inb 2 n23) (cond (inb 0 n23) (some (da [(di i33),(ix l40 (n22+0)),d35,(ix l40 (n22+1)),(ix l40 (n22+2)),d38])) none) none) none) (cond (eqI i21 3) (cond (inb 1 n23) (cond (inb 0 n23) (some (da [(di i33),(ix l40 (n22+0)),d35,(ix l40 (n22+1)),(di i37),d38])) none) none) (cond (inb 0 n23) (some (da [(di i33),(ix l40 (n22+0)),d35,(di i36),(di i37),d38])) none))))))
theorem run (M:Nat) (p0:Int) (p1:D):callS (e M) (tblOf (t M)) 12 (.fn 69) [.d (.int .i64) (di p0),.d (.slice 132) p1] [] (fun v H=>finish ty [58] v H)=s M p0 p1:=by kernel_rfl
def c:Con:={ run:=fun ds=>match ds with | [p0,p1]=>s FUEL p0.i p1 | _=>none,plain:=true }
theorem ok:ConOk (69,c):=mkC Tryz.f69 [(.int .i64),(.slice 132)] [58] (by kernel_rfl) (by kernel_rfl) (by kernel_rfl) (by kernel_rfl) allNil allNil (t_ok FUEL) fun a=>run FUEL a.1 a.2.1
end F69
namespace F117
def cons:List (Nat×Con):=[]
def exts:List (Nat×Ext):=[]
def h:List (Nat×Nat×Hint):=[]
noncomputable def e (M:Nat):Env:=env cons exts h M
def s (M:Nat) (p0:Int):Option D:=
 (cond (ltI p0 32) (some (db true)) (cond (eqI p0 47) (some (db true)) (cond (leI 127 p0) (cond (leI p0 159) (some (db true)) (some (db (eqI p0 65533)))) (some (db (eqI p0 65533))))))
theorem run (M:Nat) (p0:Int):callS (e M) (tblOf []) 12 (.fn 117) [.d (.int .i32) (D.int .i32 p0)] [] (fun v H=>finish ty [4] v H)=s M p0:=by kernel_rfl
def c:Con:={ run:=fun ds=>match ds with | [p0]=>s FUEL p0.i | _=>none,plain:=true }
theorem ok:ConOk (117,c):=mkC Tryz.f117 [(.int .i32)] [4] (by kernel_rfl) (by kernel_rfl) (by kernel_rfl) (by kernel_rfl) allNil allNil AllOk.nil fun a=>run FUEL a.1
end F117
namespace F118
def cons:List (Nat×Con):=[]
def exts:List (Nat×Ext):=[]
def h:List (Nat×Nat×Hint):=[(118,3,{ live:=[3,5] })]
noncomputable def e (M:Nat):Env:=env cons exts h M
structure S3 where
 (i1:Int) (s2:ByteArray) (n3:Nat)
inductive X3 where
 | e0 (i1:Int) (s2:ByteArray) (n3:Nat)
def st3 (M:Nat):S3→(S3→Option D)→(X3→Option D)→Option D
 | ⟨i1,s2,n3⟩,rec,K=>(cond (decide (n3<s2.size)) (rec ⟨(ad .i64 i1 1),s2,(n3+(Utf8.decode s2 n3).2)⟩) (K (.e0 i1 s2 n3)))
def ex3 (k:Kont):X3→Option D
 | .e0 i1 s2 n3=>k (.exit 0) ((us 3 ((vi i1)::(us 1 ((.iter 0)::(.tup [(vb false)])::(vb false)::(us 3 [])))))) [(.iter s2 n3)]
def lv3:S3→List Leaf
 | ⟨i1,s2,n3⟩=>[.i i1,.s s2,.n n3]
def of3:List Leaf→Option S3
 | [.i i1,.s s2,.n n3]=>some ⟨i1,s2,n3⟩
 | _=>none
def ps3:List PV:=((up 3 ((.d (.int .i64) (.int .i64))::(up 1 ((.iter 0)::(up 5 []))))))
def qs3:List PO:=[.iter]
noncomputable def t (M:Nat):List Ent:=⟨118,11,0,3,sumS [3,5] ps3 qs3 [] of3 (st3 M) ex3 M⟩::[]
theorem t_ok (M:Nat):AllOk (e M) (tblOf (t M)):=AllOk.addS (n0:=1) (lv:=lv3) AllOk.nil (by kernel_rfl) rfl (by intro ls s h;unfold of3 at h;(repeat' split at h)<;>simp at h;subst h;rfl) (by intro s;kernel_rfl) (by intro s;kernel_rfl) (by intro s nx k;kernel_rfl)
def s (M:Nat) (p0:ByteArray):Option D:=
 (goS (st3 M) M ⟨0,p0,0⟩ fun x=>match x with | .e0 i1 s2 n3=>(some (di i1)))
theorem run (M:Nat) (p0:ByteArray):callS (e M) (tblOf (t M)) 12 (.fn 118) [.d .str (dS p0)] [] (fun v H=>finish ty [3] v H)=s M p0:=by kernel_rfl
def c:Con:={ run:=fun ds=>match ds with | [p0]=>s FUEL p0.s | _=>none,plain:=true }
theorem ok:ConOk (118,c):=mkC Tryz.f118 [.str] [3] (by kernel_rfl) (by kernel_rfl) (by kernel_rfl) (by kernel_rfl) allNil allNil (t_ok FUEL) fun a=>run FUEL a.1
end F118
namespace F70
def cons:List (Nat×Con):=[(117,F117.c),(118,F118.c)]
def exts:List (Nat×Ext):=[]
def h:List (Nat×Nat×Hint):=[(142,2,{ live:=[1,2,10] })]
noncomputable def e (M:Nat):Env:=env cons exts h M
structure S142_2 where
 (b2:Bool) (s3:ByteArray) (n4:Nat)
inductive X142_2 where
 | e0 (b2:Bool) (s3:ByteArray) (n4:Nat) (r5 r6:D)
 | e1 (b2:Bool) (s3:ByteArray) (n4:Nat)
def st142_2 (M:Nat):S142_2→(S142_2→Option D)→(X142_2→Option D)→Option D
 | ⟨b2,s3,n4⟩,rec,K=>(cond (decide (n4<s3.size)) (bd (F117.s FUEL ((Utf8.decode s3 n4).1:Int)) fun r5=>(bd (match D.eqv ty eqDepth r5 (db b2) .bool with | some z=>some (.bool z) | none=>none) fun r6=>(cond r6.b (K (.e0 b2 s3 n4 r5 r6)) (rec ⟨b2,s3,(n4+(Utf8.decode s3 n4).2)⟩)))) (K (.e1 b2 s3 n4)))
def ex142_2 (k:Kont):X142_2→Option D
 | .e0 b2 s3 n4 r5 r6=>k .ret ((us 1 ((vk .func (D.fn 117))::(vb b2)::(us 3 ((vi (nI n4))::(vi (nI n4))::(vk (.int .i32) (D.int .i32 ((Utf8.decode s3 n4).1:Int)))::(us 1 ((.iter 0)::(.tup [(vb true),(vi (nI n4)),(vk (.int .i32) (D.int .i32 ((Utf8.decode s3 n4).1:Int)))])::(vb true)::(vi (nI n4))::(vk (.int .i32) (D.int .i32 ((Utf8.decode s3 n4).1:Int)))::(vk .func (D.fn 117))::(vk (.int .i32) (D.int .i32 ((Utf8.decode s3 n4).1:Int)))::(vk .bool r5)::(vb b2)::(vk .bool r6)::(vi (nI n4))::[]))))))) [(.iter s3 (n4+(Utf8.decode s3 n4).2))]
 | .e1 b2 s3 n4=>k (.exit 0) ((us 1 ((vk .func (D.fn 117))::(vb b2)::(us 7 ((.iter 0)::(.tup [(vb false)])::(vb false)::(us 8 [])))))) [(.iter s3 n4)]
def lv142_2:S142_2→List Leaf
 | ⟨b2,s3,n4⟩=>[.b b2,.s s3,.n n4]
def of142_2:List Leaf→Option S142_2
 | [.b b2,.s s3,.n n4]=>some ⟨b2,s3,n4⟩
 | _=>none
def ps142_2:List PV:=((up 1 ((.d .func (.fn 117))::(.d .bool .bool)::(up 7 ((.iter 0)::(up 10 []))))))
def qs142_2:List PO:=[.iter]
noncomputable def t (M:Nat):List Ent:=⟨142,9,0,2,sumS [1,2,10] ps142_2 qs142_2 [] of142_2 (st142_2 M) ex142_2 M⟩::[]
theorem t_ok (M:Nat):AllOk (e M) (tblOf (t M)):=AllOk.addS (n0:=1) (lv:=lv142_2) AllOk.nil (by kernel_rfl) rfl (by intro ls s h;unfold of142_2 at h;(repeat' split at h)<;>simp at h;subst h;rfl) (by intro s;kernel_rfl) (by intro s;kernel_rfl) (by intro s nx k;kernel_rfl)
def s (M:Nat) (p0:ByteArray):Option D:=
 (bd (F118.s FUEL p0) fun r1=>(cond (gtI r1.i 0) (cond (leI r1.i 24) (goS (st142_2 M) M ⟨true,p0,0⟩ fun x=>match x with | .e0 b2 s3 n4 r5 r6=>(cond (ltI (nI n4) 0) (cond (inb 0 p0.size) (cond (neI (byteAt p0 0) 32) (cond (inb (sb .i64 (nI p0.size) 1) p0.size) (some (db (neI (byteAt p0 (sb .i64 (nI p0.size) 1).toNat) 32))) none) (some (db false))) none) (some (db false))) | .e1 b2 s3 n4=>(cond (inb 0 p0.size) (cond (neI (byteAt p0 0) 32) (cond (inb (sb .i64 (nI p0.size) 1) p0.size) (some (db (neI (byteAt p0 (sb .i64 (nI p0.size) 1).toNat) 32))) none) (some (db false))) none)) (some (db false))) (some (db false))))
theorem run (M:Nat) (p0:ByteArray):callS (e M) (tblOf (t M)) 12 (.fn 70) [.d .str (dS p0)] [] (fun v H=>finish ty [4] v H)=s M p0:=by kernel_rfl
def c:Con:={ run:=fun ds=>match ds with | [p0]=>s FUEL p0.s | _=>none,plain:=true }
theorem ok:ConOk (70,c):=mkC Tryz.f70 [.str] [4] (by kernel_rfl) (by kernel_rfl) (by kernel_rfl) (by kernel_rfl) (allCons F117.ok (allCons F118.ok allNil)) allNil (t_ok FUEL) fun a=>run FUEL a.1
end F70
namespace F71
def cons:List (Nat×Con):=[]
def exts:List (Nat×Ext):=[]
def h:List (Nat×Nat×Hint):=[]
noncomputable def e (M:Nat):Env:=env cons exts h M
def s (M:Nat) (p0:Int) (p1:Int) (p2:Int):Option D:=
 (cond (leI p1 p0) (some (db (leI p0 p2))) (some (db false)))
theorem run (M:Nat) (p0:Int) (p1:Int) (p2:Int):callS (e M) (tblOf []) 12 (.fn 71) [.d (.int .i64) (di p0),.d (.int .i64) (di p1),.d (.int .i64) (di p2)] [] (fun v H=>finish ty [4] v H)=s M p0 p1 p2:=by kernel_rfl
def c:Con:={ run:=fun ds=>match ds with | [p0,p1,p2]=>s FUEL p0.i p1.i p2.i | _=>none,plain:=true }
theorem ok:ConOk (71,c):=mkC Tryz.f71 [(.int .i64),(.int .i64),(.int .i64)] [4] (by kernel_rfl) (by kernel_rfl) (by kernel_rfl) (by kernel_rfl) allNil allNil AllOk.nil fun a=>run FUEL a.1 a.2.1 a.2.2.1
end F71
namespace F34
def k0_:K:=(.struct [50,3,9,3,3,56])
def cons:List (Nat×Con):=[(68,F68.c),(69,F69.c),(70,F70.c),(71,F71.c)]
def exts:List (Nat×Ext):=[]
def h:List (Nat×Nat×Hint):=[(34,9,{ live:=[1,4,5,26,27,28] })]
noncomputable def e (M:Nat):Env:=env cons exts h M
structure S9 where
 (i11:Int) (d12 d13:D) (i14 i15:Int) (d16:D)
inductive X9 where
 | e0 (i11:Int) (d12 d13:D) (i14 i15:Int) (d16:D)
def st9 (M:Nat):S9→(S9→Option D)→(X9→Option D)→Option D
 | ⟨i11,d12,d13,i14,i15,d16⟩,rec,K=>(cond (ltI i15 i14) (cond (inb i15 d13.elems.length) (cond (isT 133 (ix d13.elems i15.toNat)) (bd (F70.s FUEL (assertD 133 (dS (bs [])) (ix d13.elems i15.toNat)).s) fun r17=>(rec ⟨i11,r17,d13,i14,(ad .i64 i15 1),d16⟩)) (rec ⟨i11,d12,d13,i14,(ad .i64 i15 1),d16⟩)) none) (K (.e0 i11 d12 d13 i14 i15 d16)))
def ex9 (k:Kont):X9→Option D
 | .e0 i11 d12 d13 i14 i15 d16=>k (.exit 0) ((us 1 ((.ptr 0 [] k0_)::(us 2 ((vi i11)::(vk .bool d12)::(us 20 ((vk (.slice 132) d13)::(vi i14)::(vi i15)::(vb (ltI i15 i14))::(us 33 [])))))))) [(.var k0_ (vk k0_ d16))]
def lv9:S9→List Leaf
 | ⟨i11,d12,d13,i14,i15,d16⟩=>[.i i11,.d d12,.d d13,.i i14,.i i15,.d d16]
def of9:List Leaf→Option S9
 | [.i i11,.d d12,.d d13,.i i14,.i i15,.d d16]=>some ⟨i11,d12,d13,i14,i15,d16⟩
 | _=>none
def ps9:List PV:=((up 1 ((.ptr 0 [] k0_)::(up 2 ((.d (.int .i64) (.int .i64))::(.d .bool .x)::(up 20 ((.d (.slice 132) .x)::(.d (.int .i64) (.int .i64))::(.d (.int .i64) (.int .i64))::(up 34 []))))))))
def qs9:List PO:=[(.var k0_ (.d k0_ .x))]
noncomputable def t (M:Nat):List Ent:=⟨34,11,0,9,sumS [1,4,5,26,27,28] ps9 qs9 [] of9 (st9 M) ex9 M⟩::[]
theorem t_ok (M:Nat):AllOk (e M) (tblOf (t M)):=AllOk.addS (n0:=1) (lv:=lv9) AllOk.nil (by kernel_rfl) rfl (by intro ls s h;unfold of9 at h;(repeat' split at h)<;>simp at h;subst h;rfl) (by intro s;kernel_rfl) (by intro s;kernel_rfl) (by intro s nx k;kernel_rfl)
def s (M:Nat) (p0:D):Option D:=
 (bd (F68.s FUEL p0) fun r1=>(cond (eqI (nI r1.elems.length) 0) (some (db false)) (bd (F69.s FUEL (p0.at 0).i r1) fun r2=>(bd (match D.eqv ty eqDepth r2 p0 (.struct [50,3,9,3,3,56]) with | some z=>some (.bool (!z)) | none=>none) fun r3=>(cond r3.b (some (db false)) (cond (eqI (p0.at 0).i 1) (goS (st9 M) M ⟨1,(db true),r1,(nI r1.elems.length),0,p0⟩ fun x=>match x with | .e0 i11 d12 d13 i14 i15 d16=>(cond d12.b (cond (eqI (d16.at 0).i 7) (bd (F71.s FUEL (d16.at 3).i 0 1099511627776) fun r18=>(cond r18.b (bd (F71.s FUEL (d16.at 4).i i11 600) fun r19=>(some r19)) (some (db false)))) (bd (F71.s FUEL (d16.at 1).i 1 1099511627776) fun r20=>(cond r20.b (bd (F71.s FUEL (d16.at 3).i 0 1099511627776) fun r21=>(cond r21.b (bd (F71.s FUEL (d16.at 4).i i11 600) fun r22=>(some r22)) (some (db false)))) (some (db false))))) (some (db false)))) (goS (st9 M) M ⟨0,(db true),r1,(nI r1.elems.length),0,p0⟩ fun x=>match x with | .e0 i11 d12 d13 i14 i15 d16=>(cond d12.b (cond (eqI (d16.at 0).i 7) (bd (F71.s FUEL (d16.at 3).i 0 1099511627776) fun r23=>(cond r23.b (bd (F71.s FUEL (d16.at 4).i i11 600) fun r24=>(some r24)) (some (db false)))) (bd (F71.s FUEL (d16.at 1).i 1 1099511627776) fun r25=>(cond r25.b (bd (F71.s FUEL (d16.at 3).i 0 1099511627776) fun r26=>(cond r26.b (bd (F71.s FUEL (d16.at 4).i i11 600) fun r27=>(some r27)) (some (db false)))) (some (db false))))) (some (db false))))))))))
theorem run (M:Nat) (p0:D):callS (e M) (tblOf (t M)) 12 (.fn 34) [.d (.struct [50,3,9,3,3,56]) p0] [] (fun v H=>finish ty [4] v H)=s M p0:=by kernel_rfl
def c:Con:={ run:=fun ds=>match ds with | [p0]=>s FUEL p0 | _=>none,plain:=true }
theorem ok:ConOk (34,c):=mkC Tryz.f34 [(.struct [50,3,9,3,3,56])] [4] (by kernel_rfl) (by kernel_rfl) (by kernel_rfl) (by kernel_rfl) (allCons F68.ok (allCons F69.ok (allCons F70.ok (allCons F71.ok allNil)))) allNil (t_ok FUEL) fun a=>run FUEL a.1
end F34
namespace F36
def cons:List (Nat×Con):=[]
def exts:List (Nat×Ext):=[]
def h:List (Nat×Nat×Hint):=[]
noncomputable def e (M:Nat):Env:=env cons exts h M
def s (M:Nat) (p0:D):Option D:=
 (cond (!p0.nn) (some (.slice false [])) (cond (mx p0.elems.length) (cond ((decide (p0.elems.length=p0.elems.length))&&true) (some (.slice true p0.elems)) none) none))
theorem run (M:Nat) (p0:D):callS (e M) (tblOf []) 12 (.fn 36) [.d (.slice 81) p0] [] (fun v H=>finishFresh ty [45] v H)=s M p0:=by kernel_rfl
def c:Con:={ run:=fun ds=>match ds with | [p0]=>s FUEL p0 | _=>none,fresh:=true }
theorem ok:ConOk (36,c):=mkF Tryz.f36 [(.slice 81)] [45] (by kernel_rfl) (by kernel_rfl) (by kernel_rfl) allNil allNil AllOk.nil fun a=>run FUEL a.1
end F36
namespace F122
def cons:List (Nat×Con):=[]
def exts:List (Nat×Ext):=[]
def h:List (Nat×Nat×Hint):=[]
noncomputable def e (M:Nat):Env:=env cons exts h M
def s (M:Nat) (p0:Int):Option D:=
 (cond (geI p0 0) (some (db (leI p0 1099511627776))) (some (db false)))
theorem run (M:Nat) (p0:Int):callS (e M) (tblOf []) 12 (.fn 122) [.d (.int .i64) (di p0)] [] (fun v H=>finish ty [4] v H)=s M p0:=by kernel_rfl
def c:Con:={ run:=fun ds=>match ds with | [p0]=>s FUEL p0.i | _=>none,plain:=true }
theorem ok:ConOk (122,c):=mkC Tryz.f122 [(.int .i64)] [4] (by kernel_rfl) (by kernel_rfl) (by kernel_rfl) (by kernel_rfl) allNil allNil AllOk.nil fun a=>run FUEL a.1
end F122
namespace F76
def cons:List (Nat×Con):=[(122,F122.c)]
def exts:List (Nat×Ext):=[]
def h:List (Nat×Nat×Hint):=[]
noncomputable def e (M:Nat):Env:=env cons exts h M
def s (M:Nat) (p0:D) (p1:Int):Option D:=
 (cond (p0.at 3).b (some (D.tup [p0,(di 5)])) (bd (F122.s FUEL p1) fun r1=>(cond (!r1.b) (some (D.tup [p0,(di 1)])) (some (D.tup [(D.agg ((D.agg (p0.parts.set 3 (db true))).parts.set 4 (di p1))),(di 0)])))))
theorem run (M:Nat) (p0:D) (p1:Int):callS (e M) (tblOf []) 12 (.fn 76) [.d (.struct [3,9,9,4,3,37]) p0,.d (.int .i64) (di p1)] [] (fun v H=>finish ty [39,36] v H)=s M p0 p1:=by kernel_rfl
def c:Con:={ run:=fun ds=>match ds with | [p0,p1]=>s FUEL p0 p1.i | _=>none }
theorem ok:ConOk (76,c):=mkC Tryz.f76 [(.struct [3,9,9,4,3,37]),(.int .i64)] [39,36] (by kernel_rfl) (by kernel_rfl) (by kernel_rfl) (by kernel_rfl) (allCons F122.ok allNil) allNil AllOk.nil fun a=>run FUEL a.1 a.2.1
end F76
namespace F79
def cons:List (Nat×Con):=[(122,F122.c)]
def exts:List (Nat×Ext):=[]
def h:List (Nat×Nat×Hint):=[]
noncomputable def e (M:Nat):Env:=env cons exts h M
def s (M:Nat) (p0:D) (p1:Int):Option D:=
 (cond (!(p0.at 3).b) (some (D.tup [p0,(di 6)])) (bd (F122.s FUEL p1) fun r1=>(cond (!r1.b) (some (D.tup [p0,(di 1)])) (cond (ltI p1 (p0.at 4).i) (some (D.tup [p0,(di 7)])) (some (D.tup [(D.agg (p0.parts.set 4 (di p1))),(di 0)]))))))
theorem run (M:Nat) (p0:D) (p1:Int):callS (e M) (tblOf []) 12 (.fn 79) [.d (.struct [3,9,9,4,3,37]) p0,.d (.int .i64) (di p1)] [] (fun v H=>finish ty [39,36] v H)=s M p0 p1:=by kernel_rfl
def c:Con:={ run:=fun ds=>match ds with | [p0,p1]=>s FUEL p0 p1.i | _=>none }
theorem ok:ConOk (79,c):=mkC Tryz.f79 [(.struct [3,9,9,4,3,37]),(.int .i64)] [39,36] (by kernel_rfl) (by kernel_rfl) (by kernel_rfl) (by kernel_rfl) (allCons F122.ok allNil) allNil AllOk.nil fun a=>run FUEL a.1 a.2.1
end F79
namespace F128
def cons:List (Nat×Con):=[]
def exts:List (Nat×Ext):=[]
def h:List (Nat×Nat×Hint):=[(128,2,{ live:=[0,1,7,8] })]
noncomputable def e (M:Nat):Env:=env cons exts h M
structure S2 where
 (d1:D) (s2:ByteArray) (i3 i4:Int)
inductive X2 where
 | e0 (d1:D) (s2:ByteArray) (i3 i4:Int)
 | e1 (d1:D) (s2:ByteArray) (i3 i4:Int)
def st2 (M:Nat):S2→(S2→Option D)→(X2→Option D)→Option D
 | ⟨d1,s2,i3,i4⟩,rec,K=>(cond (ltI i4 i3) (cond (inb i4 d1.elems.length) (cond (eqS s2 (ix d1.elems i4.toNat).s) (K (.e0 d1 s2 i3 i4)) (rec ⟨d1,s2,i3,(ad .i64 i4 1)⟩)) none) (K (.e1 d1 s2 i3 i4)))
def ex2 (k:Kont):X2→Option D
 | .e0 d1 s2 i3 i4=>k .ret ((vk (.slice 9) d1)::(vS s2)::(us 2 ((vi i4)::(vi i4)::(us 1 ((vi i3)::(vi i4)::(vb (ltI i4 i3))::(vi i4)::(vS s2)::(vk (.slice 9) d1)::(vi i4)::(.cptr .str (ix d1.elems i4.toNat))::(vk .str (ix d1.elems i4.toNat))::(vb (eqS s2 (ix d1.elems i4.toNat).s))::(vi i4)::(us 1 [])))))) []
 | .e1 d1 s2 i3 i4=>k (.exit 0) ((vk (.slice 9) d1)::(vS s2)::(us 5 ((vi i3)::(vi i4)::(vb (ltI i4 i3))::(us 9 [])))) []
def lv2:S2→List Leaf
 | ⟨d1,s2,i3,i4⟩=>[.d d1,.s s2,.i i3,.i i4]
def of2:List Leaf→Option S2
 | [.d d1,.s s2,.i i3,.i i4]=>some ⟨d1,s2,i3,i4⟩
 | _=>none
def ps2:List PV:=((.d (.slice 9) .x)::(.d .str .str)::(up 5 ((.d (.int .i64) (.int .i64))::(.d (.int .i64) (.int .i64))::(up 10 []))))
def qs2:List PO:=[]
noncomputable def t (M:Nat):List Ent:=⟨128,11,0,2,sumS [0,1,7,8] ps2 qs2 [] of2 (st2 M) ex2 M⟩::[]
theorem t_ok (M:Nat):AllOk (e M) (tblOf (t M)):=AllOk.addS (n0:=0) (lv:=lv2) AllOk.nil (by kernel_rfl) rfl (by intro ls s h;unfold of2 at h;(repeat' split at h)<;>simp at h;subst h;rfl) (by intro s;kernel_rfl) (by intro s;kernel_rfl) (by intro s nx k;kernel_rfl)
def s (M:Nat) (p0:D) (p1:ByteArray):Option D:=
 (goS (st2 M) M ⟨p0,p1,(nI p0.elems.length),0⟩ fun x=>match x with | .e0 d1 s2 i3 i4=>(some (di i4)) | .e1 d1 s2 i3 i4=>(some (di (-1))))
theorem run (M:Nat) (p0:D) (p1:ByteArray):callS (e M) (tblOf (t M)) 12 (.fn 128) [.d (.slice 9) p0,.d .str (dS p1)] [] (fun v H=>finish ty [3] v H)=s M p0 p1:=by kernel_rfl
def c:Con:={ run:=fun ds=>match ds with | [p0,p1]=>s FUEL p0 p1.s | _=>none,plain:=true }
theorem ok:ConOk (128,c):=mkC Tryz.f128 [(.slice 9),.str] [3] (by kernel_rfl) (by kernel_rfl) (by kernel_rfl) (by kernel_rfl) allNil allNil (t_ok FUEL) fun a=>run FUEL a.1 a.2.1
end F128
namespace F123
def cons:List (Nat×Con):=[(128,F128.c)]
def exts:List (Nat×Ext):=[]
def h:List (Nat×Nat×Hint):=[]
noncomputable def e (M:Nat):Env:=env cons exts h M
def s (M:Nat) (p0:D) (p1:ByteArray):Option D:=
 (bd (F128.s FUEL p0 p1) fun r1=>(some (db (geI r1.i 0))))
theorem run (M:Nat) (p0:D) (p1:ByteArray):callS (e M) (tblOf []) 12 (.fn 123) [.d (.slice 9) p0,.d .str (dS p1)] [] (fun v H=>finish ty [4] v H)=s M p0 p1:=by kernel_rfl
def c:Con:={ run:=fun ds=>match ds with | [p0,p1]=>s FUEL p0 p1.s | _=>none,plain:=true }
theorem ok:ConOk (123,c):=mkC Tryz.f123 [(.slice 9),.str] [4] (by kernel_rfl) (by kernel_rfl) (by kernel_rfl) (by kernel_rfl) (allCons F128.ok allNil) allNil AllOk.nil fun a=>run FUEL a.1 a.2.1
end F123
namespace F147
def cons:List (Nat×Con):=[(155,decodeC)]
def exts:List (Nat×Ext):=[]
def h:List (Nat×Nat×Hint):=[]
noncomputable def e (M:Nat):Env:=env cons exts h M
def s (M:Nat) (p0:ByteArray) (p1:Int) (p2:Int):Option D:=
 (cond (neI p2 65533) (some (db false)) (cond ((leI 0 p1)&&(leI p1 (nI p0.size))&&(leI (nI p0.size) (nI p0.size))&&(leI (nI p0.size) (nI p0.size))) (some (db (ltI ((Lib.decodeGo (p0.extract p1.toNat p0.size)).2:Int) 2))) none))
theorem run (M:Nat) (p0:ByteArray) (p1:Int) (p2:Int):callS (e M) (tblOf []) 12 (.fn 147) [.d .str (dS p0),.d (.int .i64) (di p1),.d (.int .i32) (D.int .i32 p2)] [] (fun v H=>finish ty [4] v H)=s M p0 p1 p2:=by kernel_rfl
def c:Con:={ run:=fun ds=>match ds with | [p0,p1,p2]=>s FUEL p0.s p1.i p2.i | _=>none,plain:=true }
theorem ok:ConOk (147,c):=mkC Tryz.f147 [.str,(.int .i64),(.int .i32)] [4] (by kernel_rfl) (by kernel_rfl) (by kernel_rfl) (by kernel_rfl) (allCons decode_ok allNil) allNil AllOk.nil fun a=>run FUEL a.1 a.2.1 a.2.2.1
end F147
namespace F136
def cons:List (Nat×Con):=[(147,F147.c)]
def exts:List (Nat×Ext):=[]
def h:List (Nat×Nat×Hint):=[(136,3,{ live:=[0,3,7],rows:=[(3,21)] })]
noncomputable def e (M:Nat):Env:=env cons exts h M
structure S3 where
 (s1:ByteArray) (n2 n3:Nat) (s4:ByteArray) (n5:Nat) (b6:Bool) (l7:List D)
inductive X3 where
 | e0 (s1:ByteArray) (n2 n3:Nat) (s4:ByteArray) (n5:Nat) (b6:Bool) (l7:List D)
def st3 (M:Nat):S3→(S3→Option D)→(X3→Option D)→Option D
 | ⟨s1,n2,n3,s4,n5,b6,l7⟩,rec,K=>(cond (decide (n5<s4.size)) (bd (F147.s FUEL s1 (nI n5) ((Utf8.decode s4 n5).1:Int)) fun r8=>(cond r8.b (cond (inb (nI n5) s1.size) (cond (mx (n3+1)) (rec ⟨s1,0,(n3+1),s4,(n5+(Utf8.decode s4 n5).2),(b6||true),(ap ((l7.drop n2).take n3) [(D.int .i32 (ad .i32 1114112 (cv .i32 (byteAt s1 n5))))])⟩) none) none) (cond (mx (n3+1)) (rec ⟨s1,0,(n3+1),s4,(n5+(Utf8.decode s4 n5).2),(b6||true),(ap ((l7.drop n2).take n3) [(D.int .i32 ((Utf8.decode s4 n5).1:Int))])⟩) none))) (K (.e0 s1 n2 n3 s4 n5 b6 l7)))
def ex3 (k:Kont):X3→Option D
 | .e0 s1 n2 n3 s4 n5 b6 l7=>k (.exit 0) ((vS s1)::(us 2 ((.sref 1 n2 n3)::(us 3 ((.iter 0)::(.tup [(vb false)])::(vb false)::(us 16 [])))))) [(.iter s4 n5),(.row 21 true b6 l7)]
def lv3:S3→List Leaf
 | ⟨s1,n2,n3,s4,n5,b6,l7⟩=>[.s s1,.n n2,.n n3,.s s4,.n n5,.b b6,.l l7]
def of3:List Leaf→Option S3
 | [.s s1,.n n2,.n n3,.s s4,.n n5,.b b6,.l l7]=>some ⟨s1,n2,n3,s4,n5,b6,l7⟩
 | _=>none
def ps3:List PV:=((.d .str .str)::(up 2 ((.sref 1)::(up 3 ((.iter 0)::(up 18 []))))))
def qs3:List PO:=[.iter,(.row 21 true)]
noncomputable def t (M:Nat):List Ent:=⟨136,11,0,3,sumS [0,3,7] ps3 qs3 [(3,1)] of3 (st3 M) ex3 M⟩::[]
theorem t_ok (M:Nat):AllOk (e M) (tblOf (t M)):=AllOk.addS (n0:=2) (lv:=lv3) AllOk.nil (by kernel_rfl) rfl (by intro ls s h;unfold of3 at h;(repeat' split at h)<;>simp at h;subst h;rfl) (by intro s;kernel_rfl) (by intro s;kernel_rfl) (by intro s nx k;kernel_rfl)
def s (M:Nat) (p0:ByteArray):Option D:=
 (goS (st3 M) M ⟨p0,0,0,p0,0,false,[]⟩ fun x=>match x with | .e0 s1 n2 n3 s4 n5 b6 l7=>(cond ((decide (n3=l7.length))&&(decide (n2=0))) (some (.slice b6 l7)) none))
theorem run (M:Nat) (p0:ByteArray):callS (e M) (tblOf (t M)) 12 (.fn 136) [.d .str (dS p0)] [] (fun v H=>finishFresh ty [181] v H)=s M p0:=by kernel_rfl
def c:Con:={ run:=fun ds=>match ds with | [p0]=>s FUEL p0.s | _=>none,fresh:=true }
theorem ok:ConOk (136,c):=mkF Tryz.f136 [.str] [181] (by kernel_rfl) (by kernel_rfl) (by kernel_rfl) (allCons F147.ok allNil) allNil (t_ok FUEL) fun a=>run FUEL a.1
end F136
namespace F102
def cons:List (Nat×Con):=[(136,F136.c)]
def exts:List (Nat×Ext):=[]
def h:List (Nat×Nat×Hint):=[(102,3,{ live:=[5,6,13,14,15] })]
noncomputable def e (M:Nat):Env:=env cons exts h M
structure S3 where
 (n3 n4 n5 n6 n7 n8:Nat) (i9 i10:Int) (b11:Bool) (l12:List D) (b13:Bool) (l14:List D)
inductive X3 where
 | e0 (n3 n4 n5 n6 n7 n8:Nat) (i9 i10:Int) (b11:Bool) (l12:List D) (b13:Bool) (l14:List D)
 | e1 (n3 n4 n5 n6 n7 n8:Nat) (i9 i10:Int) (b11:Bool) (l12:List D) (b13:Bool) (l14:List D)
 | e2 (n3 n4 n5 n6 n7 n8:Nat) (i9 i10:Int) (b11:Bool) (l12:List D) (b13:Bool) (l14:List D)
def st3 (M:Nat):S3→(S3→Option D)→(X3→Option D)→Option D
 | ⟨n3,n4,n5,n6,n7,n8,i9,i10,b11,l12,b13,l14⟩,rec,K=>(cond (ltI i10 i9) (cond (inb i10 n8) (cond (geI i10 (nI n6)) (K (.e0 n3 n4 n5 n6 n7 n8 i9 i10 b11 l12 b13 l14)) (cond (inb i10 n6) (cond (neI (ix l12 (n7+i10.toNat)).i (ix l14 (n5+i10.toNat)).i) (cond (inb i10 n6) (K (.e1 n3 n4 n5 n6 n7 n8 i9 i10 b11 l12 b13 l14)) none) (rec ⟨n3,n4,n5,n6,n7,n8,i9,(ad .i64 i10 1),b11,l12,b13,l14⟩)) none)) none) (K (.e2 n3 n4 n5 n6 n7 n8 i9 i10 b11 l12 b13 l14)))
def ex3 (k:Kont):X3→Option D
 | .e0 n3 n4 n5 n6 n7 n8 i9 i10 b11 l12 b13 l14=>k .ret ((us 4 ((vb false)::(.sref 0 n3 n4)::(.sref 1 n5 n6)::(vi i10)::(vk (.int .i32) (ix l12 (n7+i10.toNat)))::(us 4 ((.sref 0 n7 n8)::(vi i9)::(vi i10)::(vb (ltI i10 i9))::(vi i10)::(.ptr 0 [(n7+i10.toNat)] (.int .i32))::(vk (.int .i32) (ix l12 (n7+i10.toNat)))::(vi i10)::(.sref 1 n5 n6)::(vi (nI n6))::(vb (geI i10 (nI n6)))::(us 18 [])))))) [(.row 21 true b11 l12),(.row 21 true b13 l14)]
 | .e1 n3 n4 n5 n6 n7 n8 i9 i10 b11 l12 b13 l14=>k .ret ((us 4 ((vb (ltI (ix l12 (n7+i10.toNat)).i (ix l14 (n5+i10.toNat)).i))::(.sref 0 n3 n4)::(.sref 1 n5 n6)::(vi i10)::(vk (.int .i32) (ix l12 (n7+i10.toNat)))::(us 4 ((.sref 0 n7 n8)::(vi i9)::(vi i10)::(vb (ltI i10 i9))::(vi i10)::(.ptr 0 [(n7+i10.toNat)] (.int .i32))::(vk (.int .i32) (ix l12 (n7+i10.toNat)))::(vi i10)::(.sref 1 n5 n6)::(vi (nI n6))::(vb (geI i10 (nI n6)))::(vk (.int .i32) (ix l12 (n7+i10.toNat)))::(.sref 1 n5 n6)::(vi i10)::(.ptr 1 [(n5+i10.toNat)] (.int .i32))::(vk (.int .i32) (ix l14 (n5+i10.toNat)))::(vb (neI (ix l12 (n7+i10.toNat)).i (ix l14 (n5+i10.toNat)).i))::(vk (.int .i32) (ix l12 (n7+i10.toNat)))::(.sref 1 n5 n6)::(vi i10)::(.ptr 1 [(n5+i10.toNat)] (.int .i32))::(vk (.int .i32) (ix l14 (n5+i10.toNat)))::(vb (ltI (ix l12 (n7+i10.toNat)).i (ix l14 (n5+i10.toNat)).i))::(us 6 [])))))) [(.row 21 true b11 l12),(.row 21 true b13 l14)]
 | .e2 n3 n4 n5 n6 n7 n8 i9 i10 b11 l12 b13 l14=>k (.exit 0) ((us 5 ((.sref 0 n3 n4)::(.sref 1 n5 n6)::(us 6 ((.sref 0 n7 n8)::(vi i9)::(vi i10)::(vb (ltI i10 i9))::(us 25 [])))))) [(.row 21 true b11 l12),(.row 21 true b13 l14)]
def lv3:S3→List Leaf
 | ⟨n3,n4,n5,n6,n7,n8,i9,i10,b11,l12,b13,l14⟩=>[.n n3,.n n4,.n n5,.n n6,.n n7,.n n8,.i i9,.i i10,.b b11,.l l12,.b b13,.l l14]
def of3:List Leaf→Option S3
 | [.n n3,.n n4,.n n5,.n n6,.n n7,.n n8,.i i9,.i i10,.b b11,.l l12,.b b13,.l l14]=>some ⟨n3,n4,n5,n6,n7,n8,i9,i10,b11,l12,b13,l14⟩
 | _=>none
def ps3:List PV:=((up 5 ((.sref 0)::(.sref 1)::(up 6 ((.sref 0)::(.d (.int .i64) (.int .i64))::(.d (.int .i64) (.int .i64))::(up 26 []))))))
def qs3:List PO:=[(.row 21 true),(.row 21 true)]
noncomputable def t (M:Nat):List Ent:=⟨102,11,0,3,sumS [5,6,13,14,15] ps3 qs3 [] of3 (st3 M) ex3 M⟩::[]
theorem t_ok (M:Nat):AllOk (e M) (tblOf (t M)):=AllOk.addS (n0:=2) (lv:=lv3) AllOk.nil (by kernel_rfl) rfl (by intro ls s h;unfold of3 at h;(repeat' split at h)<;>simp at h;subst h;rfl) (by intro s;kernel_rfl) (by intro s;kernel_rfl) (by intro s nx k;kernel_rfl)
def s (M:Nat) (p0:ByteArray) (p1:ByteArray):Option D:=
 (bd (F136.s FUEL p0) fun r1=>(bd (F136.s FUEL p1) fun r2=>(goS (st3 M) M ⟨0,r1.elems.length,0,r2.elems.length,0,r1.elems.length,(nI r1.elems.length),0,r1.nn,r1.elems,r2.nn,r2.elems⟩ fun x=>match x with | .e0 n3 n4 n5 n6 n7 n8 i9 i10 b11 l12 b13 l14=>(some (db false)) | .e1 n3 n4 n5 n6 n7 n8 i9 i10 b11 l12 b13 l14=>(some (db (ltI (ix l12 (n7+i10.toNat)).i (ix l14 (n5+i10.toNat)).i))) | .e2 n3 n4 n5 n6 n7 n8 i9 i10 b11 l12 b13 l14=>(some (db (ltI (nI n4) (nI n6)))))))
theorem run (M:Nat) (p0:ByteArray) (p1:ByteArray):callS (e M) (tblOf (t M)) 12 (.fn 102) [.d .str (dS p0),.d .str (dS p1)] [] (fun v H=>finish ty [4] v H)=s M p0 p1:=by kernel_rfl
def c:Con:={ run:=fun ds=>match ds with | [p0,p1]=>s FUEL p0.s p1.s | _=>none,plain:=true }
theorem ok:ConOk (102,c):=mkC Tryz.f102 [.str,.str] [4] (by kernel_rfl) (by kernel_rfl) (by kernel_rfl) (by kernel_rfl) (allCons F136.ok allNil) allNil (t_ok FUEL) fun a=>run FUEL a.1 a.2.1
end F102
namespace F125
end F125
namespace F127
def cons:List (Nat×Con):=[]
def exts:List (Nat×Ext):=[]
def h:List (Nat×Nat×Hint):=[]
noncomputable def e (M:Nat):Env:=env cons exts h M
def s (M:Nat) (p0:D):Option D:=
 (cond (!p0.nn) (some (.slice false [])) (cond (mx p0.elems.length) (cond ((decide (p0.elems.length=p0.elems.length))&&true) (some (.slice true p0.elems)) none) none))
theorem run (M:Nat) (p0:D):callS (e M) (tblOf []) 12 (.fn 127) [.d (.slice 9) p0] [] (fun v H=>finishFresh ty [37] v H)=s M p0:=by kernel_rfl
def c:Con:={ run:=fun ds=>match ds with | [p0]=>s FUEL p0 | _=>none,fresh:=true }
theorem ok:ConOk (127,c):=mkF Tryz.f127 [(.slice 9)] [37] (by kernel_rfl) (by kernel_rfl) (by kernel_rfl) allNil allNil AllOk.nil fun a=>run FUEL a.1
end F127
namespace F81
def k0_:K:=(.struct [3,9,9,4,3,37])
def cons:List (Nat×Con):=[(70,F70.c),(102,F102.c),(123,F123.c),(127,F127.c)]
def exts:List (Nat×Ext):=[(126,insertX 9)]
def h:List (Nat×Nat×Hint):=[(81,12,{ own:=true }),(124,2,{ live:=[0,1,7,8] })]
noncomputable def e (M:Nat):Env:=env cons exts h M
structure S124_2 where
 (d3:D) (s4:ByteArray) (i5 i6:Int) (d7:D) (i8:Int) (s9 s10:ByteArray) (b11:Bool) (i12:Int) (b13:Bool) (l14:List D)
inductive X124_2 where
 | e0 (d3:D) (s4:ByteArray) (i5 i6:Int) (d7:D) (i8:Int) (s9 s10:ByteArray) (b11:Bool) (i12:Int) (b13:Bool) (l14:List D) (r15:D)
 | e1 (d3:D) (s4:ByteArray) (i5 i6:Int) (d7:D) (i8:Int) (s9 s10:ByteArray) (b11:Bool) (i12:Int) (b13:Bool) (l14:List D)
def st124_2 (M:Nat):S124_2→(S124_2→Option D)→(X124_2→Option D)→Option D
 | ⟨d3,s4,i5,i6,d7,i8,s9,s10,b11,i12,b13,l14⟩,rec,K=>(cond (ltI i6 i5) (cond (inb i6 d3.elems.length) (bd (F102.s FUEL (ix d3.elems i6.toNat).s s4) fun r15=>(cond (!r15.b) (K (.e0 d3 s4 i5 i6 d7 i8 s9 s10 b11 i12 b13 l14 r15)) (rec ⟨d3,s4,i5,(ad .i64 i6 1),d7,i8,s9,s10,b11,i12,b13,l14⟩))) none) (K (.e1 d3 s4 i5 i6 d7 i8 s9 s10 b11 i12 b13 l14)))
def ex124_2 (k:Kont):X124_2→Option D
 | .e0 d3 s4 i5 i6 d7 i8 s9 s10 b11 i12 b13 l14 r15=>k .ret ((vk (.slice 9) d3)::(.func (.func 125) [(vS s4)] [])::(us 2 ((vi i6)::(vi i6)::(us 1 ((vi i5)::(vi i6)::(vb (ltI i6 i5))::(vi i6)::(.func (.func 125) [(vS s4)] [])::(vk (.slice 9) d3)::(vi i6)::(.cptr .str (ix d3.elems i6.toNat))::(vk .str (ix d3.elems i6.toNat))::(vb (!r15.b))::(vi i6)::(us 1 [])))))) [(.var k0_ (vk k0_ d7)),(.var k0_ (vk k0_ (da [(di i8),(dS s9),(dS s10),(db b11),(di i12),(dl b13 l14)])))]
 | .e1 d3 s4 i5 i6 d7 i8 s9 s10 b11 i12 b13 l14=>k (.exit 0) ((vk (.slice 9) d3)::(.func (.func 125) [(vS s4)] [])::(us 5 ((vi i5)::(vi i6)::(vb (ltI i6 i5))::(us 9 [])))) [(.var k0_ (vk k0_ d7)),(.var k0_ (vk k0_ (da [(di i8),(dS s9),(dS s10),(db b11),(di i12),(dl b13 l14)])))]
def lv124_2:S124_2→List Leaf
 | ⟨d3,s4,i5,i6,d7,i8,s9,s10,b11,i12,b13,l14⟩=>[.d d3,.s s4,.i i5,.i i6,.d d7,.i i8,.s s9,.s s10,.b b11,.i i12,.b b13,.l l14]
def of124_2:List Leaf→Option S124_2
 | [.d d3,.s s4,.i i5,.i i6,.d d7,.i i8,.s s9,.s s10,.b b11,.i i12,.b b13,.l l14]=>some ⟨d3,s4,i5,i6,d7,i8,s9,s10,b11,i12,b13,l14⟩
 | _=>none
def ps124_2:List PV:=((.d (.slice 9) .x)::(.func 125 [(.d .str .str)] [])::(up 5 ((.d (.int .i64) (.int .i64))::(.d (.int .i64) (.int .i64))::(up 10 []))))
def qs124_2:List PO:=[(.var k0_ (.d k0_ .x)),(.var k0_ (.d k0_ (.agg [(.int .i64),.str,.str,.bool,(.int .i64),.slice])))]
noncomputable def t (M:Nat):List Ent:=⟨124,10,2,2,sumS [0,1,7,8] ps124_2 qs124_2 [] of124_2 (st124_2 M) ex124_2 M⟩::[]
theorem t_ok (M:Nat):AllOk (e M) (tblOf (t M)):=AllOk.addS (n0:=2) (lv:=lv124_2) AllOk.nil (by kernel_rfl) rfl (by intro ls s h;unfold of124_2 at h;(repeat' split at h)<;>simp at h;subst h;rfl) (by intro s;kernel_rfl) (by intro s;kernel_rfl) (by intro s nx k;kernel_rfl)
def s (M:Nat) (p0:D) (p1:ByteArray):Option D:=
 (cond (!(p0.at 3).b) (some (D.tup [p0,(di 6)])) (bd (F70.s FUEL p1) fun r1=>(cond (!r1.b) (some (D.tup [p0,(di 2)])) (bd (F123.s FUEL (p0.at 5) p1) fun r2=>(cond r2.b (some (D.tup [p0,(di 4)])) (cond (geI (nI (p0.at 5).elems.length) 4) (some (D.tup [p0,(di 10)])) (goS (st124_2 M) M ⟨(p0.at 5),p1,(nI (p0.at 5).elems.length),0,p0,0,(bs []),(bs []),false,0,false,[]⟩ fun x=>match x with | .e0 d3 s4 i5 i6 d7 i8 s9 s10 b11 i12 b13 l14 r15=>(cond (ltI i6 0) (bd (F127.s FUEL (d7.at 5)) fun r16=>(cond (true&&true&&true&&(leI 0 (nI (d7.at 5).elems.length))&&(leI (nI (d7.at 5).elems.length) (nI r16.elems.length))&&(mx (r16.elems.length+1))) (some (D.tup [(da [(d7.at 0),(d7.at 1),(d7.at 2),(d7.at 3),(d7.at 4),(dl true (((ap (ap (((r16.elems.drop 0).take r16.elems.length).take (d7.at 5).elems.length) [(dS p1)]) (((r16.elems.drop 0).take r16.elems.length).drop (d7.at 5).elems.length)).drop 0).take (r16.elems.length+1)))]),(di 0)])) none)) (bd (F127.s FUEL (d7.at 5)) fun r17=>(cond (true&&true&&true&&(leI 0 i6)&&(leI i6 (nI r17.elems.length))&&(mx (r17.elems.length+1))) (some (D.tup [(da [(d7.at 0),(d7.at 1),(d7.at 2),(d7.at 3),(d7.at 4),(dl true (((ap (ap (((r17.elems.drop 0).take r17.elems.length).take i6.toNat) [(dS p1)]) (((r17.elems.drop 0).take r17.elems.length).drop i6.toNat)).drop 0).take (r17.elems.length+1)))]),(di 0)])) none))) | .e1 d3 s4 i5 i6 d7 i8 s9 s10 b11 i12 b13 l14=>(bd (F127.s FUEL (d7.at 5)) fun r18=>(cond (true&&true&&true&&(leI 0 (nI (d7.at 5).elems.length))&&(leI (nI (d7.at 5).elems.length) (nI r18.elems.length))&&(mx (r18.elems.length+1))) (some (D.tup [(da [(d7.at 0),(d7.at 1),(d7.at 2),(d7.at 3),(d7.at 4),(dl true (((ap (ap (((r18.elems.drop 0).take r18.elems.length).take (d7.at 5).elems.length) [(dS p1)]) (((r18.elems.drop 0).take r18.elems.length).drop (d7.at 5).elems.length)).drop 0).take (r18.elems.length+1)))]),(di 0)])) none)))))))))
theorem run (M:Nat) (p0:D) (p1:ByteArray):callS (e M) (tblOf (t M)) 12 (.fn 81) [.d (.struct [3,9,9,4,3,37]) p0,.d .str (dS p1)] [] (fun v H=>finish ty [39,36] v H)=s M p0 p1:=by kernel_rfl
def c:Con:={ run:=fun ds=>match ds with | [p0,p1]=>s FUEL p0 p1.s | _=>none }
theorem ok:ConOk (81,c):=mkC Tryz.f81 [(.struct [3,9,9,4,3,37]),.str] [39,36] (by kernel_rfl) (by kernel_rfl) (by kernel_rfl) (by kernel_rfl) (allCons F70.ok (allCons F102.ok (allCons F123.ok (allCons F127.ok allNil)))) (allCons insert_ok allNil) (t_ok FUEL) fun a=>run FUEL a.1 a.2.1
end F81
namespace F83
def cons:List (Nat×Con):=[(127,F127.c),(128,F128.c)]
def exts:List (Nat×Ext):=[]
def h:List (Nat×Nat×Hint):=[(129,5,{ inpl:=true })]
noncomputable def e (M:Nat):Env:=env cons exts h M
def s (M:Nat) (p0:D) (p1:ByteArray):Option D:=
 (bd (F128.s FUEL (p0.at 5) p1) fun r1=>(cond (ltI r1.i 0) (some (D.tup [p0,(di 3)])) (bd (F127.s FUEL (p0.at 5)) fun r2=>(cond ((leI 0 r1.i)&&(leI r1.i (ad .i64 r1.i 1))&&(leI (ad .i64 r1.i 1) (nI r2.elems.length))&&(leI (nI r2.elems.length) (nI r2.elems.length))&&(eqN (0+r2.elems.length) r2.elems.length)) (cond (eqI r1.i (ad .i64 r1.i 1)) (some (D.tup [(da [(p0.at 0),(p0.at 1),(p0.at 2),(p0.at 3),(p0.at 4),(dl r2.nn ((r2.elems.drop 0).take r2.elems.length))]),(di 0)])) (cond (true&&(leI 0 r1.i)&&(leN (0+(r1.i).toNat) r2.elems.length)) (cond ((leI 0 (ad .i64 r1.i 1))&&(leI (ad .i64 r1.i 1) (nI r2.elems.length))&&(leN (0+r2.elems.length) r2.elems.length)) (cond (leN ((0+((r1.i).toNat-0))+((r2.elems.drop (0+(ad .i64 r1.i 1).toNat)).take (r2.elems.length-(ad .i64 r1.i 1).toNat)).length) r2.elems.length) (cond ((leI 0 (nI (((r1.i).toNat-0)+((r2.elems.drop (0+(ad .i64 r1.i 1).toNat)).take (r2.elems.length-(ad .i64 r1.i 1).toNat)).length)))&&(leI (nI (((r1.i).toNat-0)+((r2.elems.drop (0+(ad .i64 r1.i 1).toNat)).take (r2.elems.length-(ad .i64 r1.i 1).toNat)).length)) (nI r2.elems.length))&&(leN (0+r2.elems.length) (ap (ap (r2.elems.take (0+((r1.i).toNat-0))) ((r2.elems.drop (0+(ad .i64 r1.i 1).toNat)).take (r2.elems.length-(ad .i64 r1.i 1).toNat))) (r2.elems.drop ((0+((r1.i).toNat-0))+((r2.elems.drop (0+(ad .i64 r1.i 1).toNat)).take (r2.elems.length-(ad .i64 r1.i 1).toNat)).length))).length)) (some (D.tup [(da [(p0.at 0),(p0.at 1),(p0.at 2),(p0.at 3),(p0.at 4),(dl r2.nn (((ap (ap ((ap (ap (r2.elems.take (0+((r1.i).toNat-0))) ((r2.elems.drop (0+(ad .i64 r1.i 1).toNat)).take (r2.elems.length-(ad .i64 r1.i 1).toNat))) (r2.elems.drop ((0+((r1.i).toNat-0))+((r2.elems.drop (0+(ad .i64 r1.i 1).toNat)).take (r2.elems.length-(ad .i64 r1.i 1).toNat)).length))).take (0+(((r1.i).toNat-0)+((r2.elems.drop (0+(ad .i64 r1.i 1).toNat)).take (r2.elems.length-(ad .i64 r1.i 1).toNat)).length))) (rp (r2.elems.length-(((r1.i).toNat-0)+((r2.elems.drop (0+(ad .i64 r1.i 1).toNat)).take (r2.elems.length-(ad .i64 r1.i 1).toNat)).length)) (dS (bs [])))) ((ap (ap (r2.elems.take (0+((r1.i).toNat-0))) ((r2.elems.drop (0+(ad .i64 r1.i 1).toNat)).take (r2.elems.length-(ad .i64 r1.i 1).toNat))) (r2.elems.drop ((0+((r1.i).toNat-0))+((r2.elems.drop (0+(ad .i64 r1.i 1).toNat)).take (r2.elems.length-(ad .i64 r1.i 1).toNat)).length))).drop ((0+(((r1.i).toNat-0)+((r2.elems.drop (0+(ad .i64 r1.i 1).toNat)).take (r2.elems.length-(ad .i64 r1.i 1).toNat)).length))+(r2.elems.length-(((r1.i).toNat-0)+((r2.elems.drop (0+(ad .i64 r1.i 1).toNat)).take (r2.elems.length-(ad .i64 r1.i 1).toNat)).length))))).drop 0).take (((r1.i).toNat-0)+((r2.elems.drop (0+(ad .i64 r1.i 1).toNat)).take (r2.elems.length-(ad .i64 r1.i 1).toNat)).length)))]),(di 0)])) none) none) none) none)) none))))
theorem run (M:Nat) (p0:D) (p1:ByteArray):callS (e M) (tblOf []) 12 (.fn 83) [.d (.struct [3,9,9,4,3,37]) p0,.d .str (dS p1)] [] (fun v H=>finish ty [39,36] v H)=s M p0 p1:=by kernel_rfl
def c:Con:={ run:=fun ds=>match ds with | [p0,p1]=>s FUEL p0 p1.s | _=>none }
theorem ok:ConOk (83,c):=mkC Tryz.f83 [(.struct [3,9,9,4,3,37]),.str] [39,36] (by kernel_rfl) (by kernel_rfl) (by kernel_rfl) (by kernel_rfl) (allCons F127.ok (allCons F128.ok allNil)) allNil AllOk.nil fun a=>run FUEL a.1 a.2.1
end F83
namespace F85
def cons:List (Nat×Con):=[]
def exts:List (Nat×Ext):=[]
def h:List (Nat×Nat×Hint):=[]
noncomputable def e (M:Nat):Env:=env cons exts h M
def s (M:Nat) (p0:D) (p1:Int):Option D:=
 (cond (!(p0.at 3).b) (some (di 6)) (cond (ltI p1 (p0.at 4).i) (some (di 8)) (cond (gtI (nI (p0.at 5).elems.length) 0) (some (di 9)) (some (di 0)))))
theorem run (M:Nat) (p0:D) (p1:Int):callS (e M) (tblOf []) 12 (.fn 85) [.d (.struct [3,9,9,4,3,37]) p0,.d (.int .i64) (di p1)] [] (fun v H=>finish ty [36] v H)=s M p0 p1:=by kernel_rfl
def c:Con:={ run:=fun ds=>match ds with | [p0,p1]=>s FUEL p0 p1.i | _=>none,plain:=true }
theorem ok:ConOk (85,c):=mkC Tryz.f85 [(.struct [3,9,9,4,3,37]),(.int .i64)] [36] (by kernel_rfl) (by kernel_rfl) (by kernel_rfl) (by kernel_rfl) allNil allNil AllOk.nil fun a=>run FUEL a.1 a.2.1
end F85
namespace F31
def k1_:K:=(.struct [45,3,3])
def cons:List (Nat×Con):=[]
def exts:List (Nat×Ext):=[]
def h:List (Nat×Nat×Hint):=[(59,2,{ live:=[0,1,7,8] })]
noncomputable def e (M:Nat):Env:=env cons exts h M
structure S59_2 where
 (d1:D) (i2 i3:Int) (d4:D) (i5:Int)
inductive X59_2 where
 | e0 (d1:D) (i2 i3:Int) (d4:D) (i5:Int)
 | e1 (d1:D) (i2 i3:Int) (d4:D) (i5:Int)
def st59_2 (M:Nat):S59_2→(S59_2→Option D)→(X59_2→Option D)→Option D
 | ⟨d1,i2,i3,d4,i5⟩,rec,K=>(cond (ltI i3 i2) (cond (inb i3 d1.elems.length) (cond (eqI (((ix d1.elems i3.toNat).at 0).at 0).i i5) (K (.e0 d1 i2 i3 d4 i5)) (rec ⟨d1,i2,(ad .i64 i3 1),d4,i5⟩)) none) (K (.e1 d1 i2 i3 d4 i5)))
def ex59_2 (k:Kont):X59_2→Option D
 | .e0 d1 i2 i3 d4 i5=>k .ret ((vk (.slice 81) d1)::(.func (.func 60) [] [(.ptr 1 [] (.int .i64))])::(us 2 ((vi i3)::(vi i3)::(us 1 ((vi i2)::(vi i3)::(vb (ltI i3 i2))::(vi i3)::(.func (.func 60) [] [(.ptr 1 [] (.int .i64))])::(vk (.slice 81) d1)::(vi i3)::(.cptr (.struct [39,3,56]) (ix d1.elems i3.toNat))::(vk (.struct [39,3,56]) (ix d1.elems i3.toNat))::(vb (eqI (((ix d1.elems i3.toNat).at 0).at 0).i i5))::(vi i3)::(us 1 [])))))) [(.var k1_ (vk k1_ d4)),(.var (.int .i64) (vi i5)),(.var (.struct [39,3,56]) (vk (.struct [39,3,56]) (ix d1.elems i3.toNat)))]
 | .e1 d1 i2 i3 d4 i5=>k (.exit 0) ((vk (.slice 81) d1)::(.func (.func 60) [] [(.ptr 1 [] (.int .i64))])::(us 5 ((vi i2)::(vi i3)::(vb (ltI i3 i2))::(us 9 [])))) [(.var k1_ (vk k1_ d4)),(.var (.int .i64) (vi i5))]
def lv59_2:S59_2→List Leaf
 | ⟨d1,i2,i3,d4,i5⟩=>[.d d1,.i i2,.i i3,.d d4,.i i5]
def of59_2:List Leaf→Option S59_2
 | [.d d1,.i i2,.i i3,.d d4,.i i5]=>some ⟨d1,i2,i3,d4,i5⟩
 | _=>none
def ps59_2:List PV:=((.d (.slice 81) .x)::(.func 60 [] [(.ptr 1 [] (.int .i64))])::(up 5 ((.d (.int .i64) (.int .i64))::(.d (.int .i64) (.int .i64))::(up 10 []))))
def qs59_2:List PO:=[(.var k1_ (.d k1_ .x)),(.var (.int .i64) (.d (.int .i64) (.int .i64)))]
noncomputable def t (M:Nat):List Ent:=⟨59,10,2,2,sumS [0,1,7,8] ps59_2 qs59_2 [] of59_2 (st59_2 M) ex59_2 M⟩::[]
theorem t_ok (M:Nat):AllOk (e M) (tblOf (t M)):=AllOk.addS (n0:=2) (lv:=lv59_2) AllOk.nil (by kernel_rfl) rfl (by intro ls s h;unfold of59_2 at h;(repeat' split at h)<;>simp at h;subst h;rfl) (by intro s;kernel_rfl) (by intro s;kernel_rfl) (by intro s nx k;kernel_rfl)
def s (M:Nat) (p0:D) (p1:Int):Option D:=
 (goS (st59_2 M) M ⟨(p0.at 0),(nI (p0.at 0).elems.length),0,p0,p1⟩ fun x=>match x with | .e0 d1 i2 i3 d4 i5=>(some (di i3)) | .e1 d1 i2 i3 d4 i5=>(some (di (-1))))
theorem run (M:Nat) (p0:D) (p1:Int):callS (e M) (tblOf (t M)) 12 (.fn 31) [.d (.struct [45,3,3]) p0,.d (.int .i64) (di p1)] [] (fun v H=>finish ty [3] v H)=s M p0 p1:=by kernel_rfl
def c:Con:={ run:=fun ds=>match ds with | [p0,p1]=>s FUEL p0 p1.i | _=>none,plain:=true }
theorem ok:ConOk (31,c):=mkC Tryz.f31 [(.struct [45,3,3]),(.int .i64)] [3] (by kernel_rfl) (by kernel_rfl) (by kernel_rfl) (by kernel_rfl) allNil allNil (t_ok FUEL) fun a=>run FUEL a.1 a.2.1
end F31
namespace F16
def k1_:K:=(.struct [45,3,3])
def k2_:K:=(.struct [50,3,9,3,3,56])
def cons:List (Nat×Con):=[(31,F31.c),(34,F34.c),(36,F36.c),(76,F76.c),(79,F79.c),(81,F81.c),(83,F83.c),(85,F85.c)]
def exts:List (Nat×Ext):=[]
def h:List (Nat×Nat×Hint):=[(37,5,{ inpl:=true }),(59,2,{ live:=[0,1,7,8] })]
def o0_:AObj:=(.var (.struct [92]) (vk (.struct [92]) (da [(D.fn 73)])))
def q0_:PO:=(.var k2_ (.d k2_ .x))
def q1_:PO:=(.var k1_ (.d k1_ .x))
noncomputable def e (M:Nat):Env:=env cons exts h M
structure S59_2 where
 (d2:D) (i3 i4:Int) (d5 d6:D) (b7:Bool) (l8:List D) (i9 i10:Int) (d11 d12:D)
inductive X59_2 where
 | e0 (d2:D) (i3 i4:Int) (d5 d6:D) (b7:Bool) (l8:List D) (i9 i10:Int) (d11 d12:D)
 | e1 (d2:D) (i3 i4:Int) (d5 d6:D) (b7:Bool) (l8:List D) (i9 i10:Int) (d11 d12:D)
def st59_2 (M:Nat):S59_2→(S59_2→Option D)→(X59_2→Option D)→Option D
 | ⟨d2,i3,i4,d5,d6,b7,l8,i9,i10,d11,d12⟩,rec,K=>(cond (ltI i4 i3) (cond (inb i4 d2.elems.length) (cond (eqS (((ix d2.elems i4.toNat).at 0).at 1).s (d12.at 2).s) (K (.e0 d2 i3 i4 d5 d6 b7 l8 i9 i10 d11 d12)) (rec ⟨d2,i3,(ad .i64 i4 1),d5,d6,b7,l8,i9,i10,d11,d12⟩)) none) (K (.e1 d2 i3 i4 d5 d6 b7 l8 i9 i10 d11 d12)))
def ex59_2 (k:Kont):X59_2→Option D
 | .e0 d2 i3 i4 d5 d6 b7 l8 i9 i10 d11 d12=>k .ret ((vk (.slice 81) d2)::(.func (.func 120) [] [(.ptr 5 [] k2_)])::(us 2 ((vi i4)::(vi i4)::(us 1 ((vi i3)::(vi i4)::(vb (ltI i4 i3))::(vi i4)::(.func (.func 120) [] [(.ptr 5 [] k2_)])::(vk (.slice 81) d2)::(vi i4)::(.cptr (.struct [39,3,56]) (ix d2.elems i4.toNat))::(vk (.struct [39,3,56]) (ix d2.elems i4.toNat))::(vb (eqS (((ix d2.elems i4.toNat).at 0).at 1).s (d12.at 2).s))::(vi i4)::(us 1 [])))))) [(.var k1_ (vk k1_ d5)),(.var k2_ (vk k2_ d6)),(.var k1_ (vk k1_ (da [(dl b7 l8),(di i9),(di i10)]))),(.var k1_ (vk k1_ d11)),o0_,(.var k2_ (vk k2_ d12)),(.var (.struct [39,3,56]) (vk (.struct [39,3,56]) (ix d2.elems i4.toNat)))]
 | .e1 d2 i3 i4 d5 d6 b7 l8 i9 i10 d11 d12=>k (.exit 0) ((vk (.slice 81) d2)::(.func (.func 120) [] [(.ptr 5 [] k2_)])::(us 5 ((vi i3)::(vi i4)::(vb (ltI i4 i3))::(us 9 [])))) [(.var k1_ (vk k1_ d5)),(.var k2_ (vk k2_ d6)),(.var k1_ (vk k1_ (da [(dl b7 l8),(di i9),(di i10)]))),(.var k1_ (vk k1_ d11)),o0_,(.var k2_ (vk k2_ d12))]
def lv59_2:S59_2→List Leaf
 | ⟨d2,i3,i4,d5,d6,b7,l8,i9,i10,d11,d12⟩=>[.d d2,.i i3,.i i4,.d d5,.d d6,.b b7,.l l8,.i i9,.i i10,.d d11,.d d12]
def of59_2:List Leaf→Option S59_2
 | [.d d2,.i i3,.i i4,.d d5,.d d6,.b b7,.l l8,.i i9,.i i10,.d d11,.d d12]=>some ⟨d2,i3,i4,d5,d6,b7,l8,i9,i10,d11,d12⟩
 | _=>none
def ps59_2:List PV:=((.d (.slice 81) .x)::(.func 120 [] [(.ptr 5 [] k2_)])::(up 5 ((.d (.int .i64) (.int .i64))::(.d (.int .i64) (.int .i64))::(up 10 []))))
def qs59_2:List PO:=[q1_,q0_,(.var k1_ (.d k1_ (.agg [.slice,(.int .i64),(.int .i64)]))),q1_,(.var (.struct [92]) (.d (.struct [92]) (.agg [(.fn 73)]))),q0_]
noncomputable def t (M:Nat):List Ent:=⟨59,8,6,2,sumS [0,1,7,8] ps59_2 qs59_2 [] of59_2 (st59_2 M) ex59_2 M⟩::[]
theorem t_ok (M:Nat):AllOk (e M) (tblOf (t M)):=AllOk.addS (n0:=6) (lv:=lv59_2) AllOk.nil (by kernel_rfl) rfl (by intro ls s h;unfold of59_2 at h;(repeat' split at h)<;>simp at h;subst h;rfl) (by intro s;kernel_rfl) (by intro s;kernel_rfl) (by intro s nx k;kernel_rfl)
def s (M:Nat) (p0:D) (p1:D):Option D:=
 (bd (F34.s FUEL p1) fun r1=>(cond (!r1.b) (some (D.tup [p0,(di 13)])) (cond (eqI (p1.at 0).i 7) (cond (leI (p1.at 3).i (p0.at 2).i) (some (D.tup [p0,(di 13)])) (some (D.tup [(D.agg (p0.parts.set 2 (p1.at 3))),(di 0)]))) (cond (eqI (p1.at 0).i 0) (cond (neI (sb .i64 (p1.at 1).i 1) (p0.at 1).i) (some (D.tup [p0,(di 13)])) (cond (geI (nI (p0.at 0).elems.length) 12) (some (D.tup [p0,(di 13)])) (goS (st59_2 M) M ⟨(p0.at 0),(nI (p0.at 0).elems.length),0,p0,p1,false,[],0,0,p0,p1⟩ fun x=>match x with | .e0 d2 i3 i4 d5 d6 b7 l8 i9 i10 d11 d12=>(cond (geI i4 0) (some (D.tup [d5,(di 13)])) (bd (F36.s FUEL (d11.at 0)) fun r13=>(cond (mx (r13.elems.length+1)) (some (D.tup [(da [(dl (r13.nn||true) (((ap ((r13.elems.drop 0).take r13.elems.length) [(da [(da [(d12.at 1),(d12.at 2),(dS (bs [])),(db false),(di 0),(dl false [])]),(di 0),(da (rp 32 (D.int .u8 0)))])]).drop 0).take (r13.elems.length+1))),(d12.at 1),(d11.at 2)]),(di 0)])) none))) | .e1 d2 i3 i4 d5 d6 b7 l8 i9 i10 d11 d12=>(bd (F36.s FUEL (d11.at 0)) fun r14=>(cond (mx (r14.elems.length+1)) (some (D.tup [(da [(dl (r14.nn||true) (((ap ((r14.elems.drop 0).take r14.elems.length) [(da [(da [(d12.at 1),(d12.at 2),(dS (bs [])),(db false),(di 0),(dl false [])]),(di 0),(da (rp 32 (D.int .u8 0)))])]).drop 0).take (r14.elems.length+1))),(d12.at 1),(d11.at 2)]),(di 0)])) none))))) (cond (eqI (p1.at 0).i 1) (bd (F31.s FUEL p0 (p1.at 1).i) fun r15=>(cond (ltI r15.i 0) (some (D.tup [p0,(di 13)])) (bd (F36.s FUEL (p0.at 0)) fun r16=>(cond (inb r15.i r16.elems.length) (bdB (((ix r16.elems (0+(r15.i).toNat)).at 0).at 3) fun g17=>(cond g17 (some (D.tup [p0,(di 13)])) (cond (gtI ((ix r16.elems (0+(r15.i).toNat)).at 1).i (sb .i64 600 (p1.at 4).i)) (some (D.tup [p0,(di 13)])) (cond (eqI (p1.at 0).i 6) (cond ((leI 0 r15.i)&&(leI r15.i (ad .i64 r15.i 1))&&(leI (ad .i64 r15.i 1) (nI r16.elems.length))&&(leI (nI r16.elems.length) (nI r16.elems.length))&&(eqN (0+r16.elems.length) (r16.elems.set (0+(r15.i).toNat) (D.agg ((ix r16.elems (0+(r15.i).toNat)).parts.set 1 (di (ad .i64 ((ix r16.elems (0+(r15.i).toNat)).at 1).i (p1.at 4).i))))).length)) (cond (eqI r15.i (ad .i64 r15.i 1)) (some (D.tup [(da [(dl r16.nn (((r16.elems.set (0+(r15.i).toNat) (D.agg ((ix r16.elems (0+(r15.i).toNat)).parts.set 1 (di (ad .i64 ((ix r16.elems (0+(r15.i).toNat)).at 1).i (p1.at 4).i))))).drop 0).take r16.elems.length)),(p0.at 1),(p0.at 2)]),(di 0)])) (cond (true&&(leI 0 r15.i)&&(leN (0+(r15.i).toNat) (r16.elems.set (0+(r15.i).toNat) (D.agg ((ix r16.elems (0+(r15.i).toNat)).parts.set 1 (di (ad .i64 ((ix r16.elems (0+(r15.i).toNat)).at 1).i (p1.at 4).i))))).length)) (cond ((leI 0 (ad .i64 r15.i 1))&&(leI (ad .i64 r15.i 1) (nI r16.elems.length))&&(leN (0+r16.elems.length) (r16.elems.set (0+(r15.i).toNat) (D.agg ((ix r16.elems (0+(r15.i).toNat)).parts.set 1 (di (ad .i64 ((ix r16.elems (0+(r15.i).toNat)).at 1).i (p1.at 4).i))))).length)) (cond (leN ((0+((r15.i).toNat-0))+(((r16.elems.set (0+(r15.i).toNat) (D.agg ((ix r16.elems (0+(r15.i).toNat)).parts.set 1 (di (ad .i64 ((ix r16.elems (0+(r15.i).toNat)).at 1).i (p1.at 4).i))))).drop (0+(ad .i64 r15.i 1).toNat)).take (r16.elems.length-(ad .i64 r15.i 1).toNat)).length) (r16.elems.set (0+(r15.i).toNat) (D.agg ((ix r16.elems (0+(r15.i).toNat)).parts.set 1 (di (ad .i64 ((ix r16.elems (0+(r15.i).toNat)).at 1).i (p1.at 4).i))))).length) (cond ((leI 0 (nI (((r15.i).toNat-0)+(((r16.elems.set (0+(r15.i).toNat) (D.agg ((ix r16.elems (0+(r15.i).toNat)).parts.set 1 (di (ad .i64 ((ix r16.elems (0+(r15.i).toNat)).at 1).i (p1.at 4).i))))).drop (0+(ad .i64 r15.i 1).toNat)).take (r16.elems.length-(ad .i64 r15.i 1).toNat)).length)))&&(leI (nI (((r15.i).toNat-0)+(((r16.elems.set (0+(r15.i).toNat) (D.agg ((ix r16.elems (0+(r15.i).toNat)).parts.set 1 (di (ad .i64 ((ix r16.elems (0+(r15.i).toNat)).at 1).i (p1.at 4).i))))).drop (0+(ad .i64 r15.i 1).toNat)).take (r16.elems.length-(ad .i64 r15.i 1).toNat)).length)) (nI r16.elems.length))&&(leN (0+r16.elems.length) (ap (ap ((r16.elems.set (0+(r15.i).toNat) (D.agg ((ix r16.elems (0+(r15.i).toNat)).parts.set 1 (di (ad .i64 ((ix r16.elems (0+(r15.i).toNat)).at 1).i (p1.at 4).i))))).take (0+((r15.i).toNat-0))) (((r16.elems.set (0+(r15.i).toNat) (D.agg ((ix r16.elems (0+(r15.i).toNat)).parts.set 1 (di (ad .i64 ((ix r16.elems (0+(r15.i).toNat)).at 1).i (p1.at 4).i))))).drop (0+(ad .i64 r15.i 1).toNat)).take (r16.elems.length-(ad .i64 r15.i 1).toNat))) ((r16.elems.set (0+(r15.i).toNat) (D.agg ((ix r16.elems (0+(r15.i).toNat)).parts.set 1 (di (ad .i64 ((ix r16.elems (0+(r15.i).toNat)).at 1).i (p1.at 4).i))))).drop ((0+((r15.i).toNat-0))+(((r16.elems.set (0+(r15.i).toNat) (D.agg ((ix r16.elems (0+(r15.i).toNat)).parts.set 1 (di (ad .i64 ((ix r16.elems (0+(r15.i).toNat)).at 1).i (p1.at 4).i))))).drop (0+(ad .i64 r15.i 1).toNat)).take (r16.elems.length-(ad .i64 r15.i 1).toNat)).length))).length)) (some (D.tup [(da [(dl r16.nn (((ap (ap ((ap (ap ((r16.elems.set (0+(r15.i).toNat) (D.agg ((ix r16.elems (0+(r15.i).toNat)).parts.set 1 (di (ad .i64 ((ix r16.elems (0+(r15.i).toNat)).at 1).i (p1.at 4).i))))).take (0+((r15.i).toNat-0))) (((r16.elems.set (0+(r15.i).toNat) (D.agg ((ix r16.elems (0+(r15.i).toNat)).parts.set 1 (di (ad .i64 ((ix r16.elems (0+(r15.i).toNat)).at 1).i (p1.at 4).i))))).drop (0+(ad .i64 r15.i 1).toNat)).take (r16.elems.length-(ad .i64 r15.i 1).toNat))) ((r16.elems.set (0+(r15.i).toNat) (D.agg ((ix r16.elems (0+(r15.i).toNat)).parts.set 1 (di (ad .i64 ((ix r16.elems (0+(r15.i).toNat)).at 1).i (p1.at 4).i))))).drop ((0+((r15.i).toNat-0))+(((r16.elems.set (0+(r15.i).toNat) (D.agg ((ix r16.elems (0+(r15.i).toNat)).parts.set 1 (di (ad .i64 ((ix r16.elems (0+(r15.i).toNat)).at 1).i (p1.at 4).i))))).drop (0+(ad .i64 r15.i 1).toNat)).take (r16.elems.length-(ad .i64 r15.i 1).toNat)).length))).take (0+(((r15.i).toNat-0)+(((r16.elems.set (0+(r15.i).toNat) (D.agg ((ix r16.elems (0+(r15.i).toNat)).parts.set 1 (di (ad .i64 ((ix r16.elems (0+(r15.i).toNat)).at 1).i (p1.at 4).i))))).drop (0+(ad .i64 r15.i 1).toNat)).take (r16.elems.length-(ad .i64 r15.i 1).toNat)).length))) (rp (r16.elems.length-(((r15.i).toNat-0)+(((r16.elems.set (0+(r15.i).toNat) (D.agg ((ix r16.elems (0+(r15.i).toNat)).parts.set 1 (di (ad .i64 ((ix r16.elems (0+(r15.i).toNat)).at 1).i (p1.at 4).i))))).drop (0+(ad .i64 r15.i 1).toNat)).take (r16.elems.length-(ad .i64 r15.i 1).toNat)).length)) (da [(da [(di 0),(dS (bs [])),(dS (bs [])),(db false),(di 0),(dl false [])]),(di 0),(da (rp 32 (D.int .u8 0)))]))) ((ap (ap ((r16.elems.set (0+(r15.i).toNat) (D.agg ((ix r16.elems (0+(r15.i).toNat)).parts.set 1 (di (ad .i64 ((ix r16.elems (0+(r15.i).toNat)).at 1).i (p1.at 4).i))))).take (0+((r15.i).toNat-0))) (((r16.elems.set (0+(r15.i).toNat) (D.agg ((ix r16.elems (0+(r15.i).toNat)).parts.set 1 (di (ad .i64 ((ix r16.elems (0+(r15.i).toNat)).at 1).i (p1.at 4).i))))).drop (0+(ad .i64 r15.i 1).toNat)).take (r16.elems.length-(ad .i64 r15.i 1).toNat))) ((r16.elems.set (0+(r15.i).toNat) (D.agg ((ix r16.elems (0+(r15.i).toNat)).parts.set 1 (di (ad .i64 ((ix r16.elems (0+(r15.i).toNat)).at 1).i (p1.at 4).i))))).drop ((0+((r15.i).toNat-0))+(((r16.elems.set (0+(r15.i).toNat) (D.agg ((ix r16.elems (0+(r15.i).toNat)).parts.set 1 (di (ad .i64 ((ix r16.elems (0+(r15.i).toNat)).at 1).i (p1.at 4).i))))).drop (0+(ad .i64 r15.i 1).toNat)).take (r16.elems.length-(ad .i64 r15.i 1).toNat)).length))).drop ((0+(((r15.i).toNat-0)+(((r16.elems.set (0+(r15.i).toNat) (D.agg ((ix r16.elems (0+(r15.i).toNat)).parts.set 1 (di (ad .i64 ((ix r16.elems (0+(r15.i).toNat)).at 1).i (p1.at 4).i))))).drop (0+(ad .i64 r15.i 1).toNat)).take (r16.elems.length-(ad .i64 r15.i 1).toNat)).length))+(r16.elems.length-(((r15.i).toNat-0)+(((r16.elems.set (0+(r15.i).toNat) (D.agg ((ix r16.elems (0+(r15.i).toNat)).parts.set 1 (di (ad .i64 ((ix r16.elems (0+(r15.i).toNat)).at 1).i (p1.at 4).i))))).drop (0+(ad .i64 r15.i 1).toNat)).take (r16.elems.length-(ad .i64 r15.i 1).toNat)).length))))).drop 0).take (((r15.i).toNat-0)+(((r16.elems.set (0+(r15.i).toNat) (D.agg ((ix r16.elems (0+(r15.i).toNat)).parts.set 1 (di (ad .i64 ((ix r16.elems (0+(r15.i).toNat)).at 1).i (p1.at 4).i))))).drop (0+(ad .i64 r15.i 1).toNat)).take (r16.elems.length-(ad .i64 r15.i 1).toNat)).length))),(p0.at 1),(p0.at 2)]),(di 0)])) none) none) none) none)) none) (some (D.tup [(da [(dl r16.nn (((r16.elems.set (0+(r15.i).toNat) (D.agg ((ix r16.elems (0+(r15.i).toNat)).parts.set 1 (di (ad .i64 ((ix r16.elems (0+(r15.i).toNat)).at 1).i (p1.at 4).i))))).drop 0).take r16.elems.length)),(p0.at 1),(p0.at 2)]),(di 0)])))))) none)))) (cond (eqI (p1.at 0).i 2) (bd (F31.s FUEL p0 (p1.at 1).i) fun r18=>(cond (ltI r18.i 0) (some (D.tup [p0,(di 13)])) (bd (F36.s FUEL (p0.at 0)) fun r19=>(cond (inb r18.i r19.elems.length) (bd (F76.s FUEL ((ix r19.elems (0+(r18.i).toNat)).at 0) (p1.at 3).i) fun r20=>(cond (neI ((ix r19.elems (0+(r18.i).toNat)).at 1).i (p1.at 4).i) (some (D.tup [p0,(di 13)])) (cond (eqI (r20.at 1).i 0) (cond (!(eqI (r20.at 1).i 0)) (some (D.tup [p0,(di 13)])) (cond (eqI (p1.at 0).i 6) (cond ((leI 0 r18.i)&&(leI r18.i (ad .i64 r18.i 1))&&(leI (ad .i64 r18.i 1) (nI r19.elems.length))&&(leI (nI r19.elems.length) (nI r19.elems.length))&&(eqN (0+r19.elems.length) ((r19.elems.set (0+(r18.i).toNat) (D.agg ((ix r19.elems (0+(r18.i).toNat)).parts.set 0 (r20.at 0)))).set (0+(r18.i).toNat) (D.agg ((ix (r19.elems.set (0+(r18.i).toNat) (D.agg ((ix r19.elems (0+(r18.i).toNat)).parts.set 0 (r20.at 0)))) (0+(r18.i).toNat)).parts.set 2 (p1.at 5)))).length)) (cond (eqI r18.i (ad .i64 r18.i 1)) (some (D.tup [(da [(dl r19.nn ((((r19.elems.set (0+(r18.i).toNat) (D.agg ((ix r19.elems (0+(r18.i).toNat)).parts.set 0 (r20.at 0)))).set (0+(r18.i).toNat) (D.agg ((ix (r19.elems.set (0+(r18.i).toNat) (D.agg ((ix r19.elems (0+(r18.i).toNat)).parts.set 0 (r20.at 0)))) (0+(r18.i).toNat)).parts.set 2 (p1.at 5)))).drop 0).take r19.elems.length)),(p0.at 1),(p0.at 2)]),(di 0)])) (cond (true&&(leI 0 r18.i)&&(leN (0+(r18.i).toNat) ((r19.elems.set (0+(r18.i).toNat) (D.agg ((ix r19.elems (0+(r18.i).toNat)).parts.set 0 (r20.at 0)))).set (0+(r18.i).toNat) (D.agg ((ix (r19.elems.set (0+(r18.i).toNat) (D.agg ((ix r19.elems (0+(r18.i).toNat)).parts.set 0 (r20.at 0)))) (0+(r18.i).toNat)).parts.set 2 (p1.at 5)))).length)) (cond ((leI 0 (ad .i64 r18.i 1))&&(leI (ad .i64 r18.i 1) (nI r19.elems.length))&&(leN (0+r19.elems.length) ((r19.elems.set (0+(r18.i).toNat) (D.agg ((ix r19.elems (0+(r18.i).toNat)).parts.set 0 (r20.at 0)))).set (0+(r18.i).toNat) (D.agg ((ix (r19.elems.set (0+(r18.i).toNat) (D.agg ((ix r19.elems (0+(r18.i).toNat)).parts.set 0 (r20.at 0)))) (0+(r18.i).toNat)).parts.set 2 (p1.at 5)))).length)) (cond (leN ((0+((r18.i).toNat-0))+((((r19.elems.set (0+(r18.i).toNat) (D.agg ((ix r19.elems (0+(r18.i).toNat)).parts.set 0 (r20.at 0)))).set (0+(r18.i).toNat) (D.agg ((ix (r19.elems.set (0+(r18.i).toNat) (D.agg ((ix r19.elems (0+(r18.i).toNat)).parts.set 0 (r20.at 0)))) (0+(r18.i).toNat)).parts.set 2 (p1.at 5)))).drop (0+(ad .i64 r18.i 1).toNat)).take (r19.elems.length-(ad .i64 r18.i 1).toNat)).length) ((r19.elems.set (0+(r18.i).toNat) (D.agg ((ix r19.elems (0+(r18.i).toNat)).parts.set 0 (r20.at 0)))).set (0+(r18.i).toNat) (D.agg ((ix (r19.elems.set (0+(r18.i).toNat) (D.agg ((ix r19.elems (0+(r18.i).toNat)).parts.set 0 (r20.at 0)))) (0+(r18.i).toNat)).parts.set 2 (p1.at 5)))).length) (cond ((leI 0 (nI (((r18.i).toNat-0)+((((r19.elems.set (0+(r18.i).toNat) (D.agg ((ix r19.elems (0+(r18.i).toNat)).parts.set 0 (r20.at 0)))).set (0+(r18.i).toNat) (D.agg ((ix (r19.elems.set (0+(r18.i).toNat) (D.agg ((ix r19.elems (0+(r18.i).toNat)).parts.set 0 (r20.at 0)))) (0+(r18.i).toNat)).parts.set 2 (p1.at 5)))).drop (0+(ad .i64 r18.i 1).toNat)).take (r19.elems.length-(ad .i64 r18.i 1).toNat)).length)))&&(leI (nI (((r18.i).toNat-0)+((((r19.elems.set (0+(r18.i).toNat) (D.agg ((ix r19.elems (0+(r18.i).toNat)).parts.set 0 (r20.at 0)))).set (0+(r18.i).toNat) (D.agg ((ix (r19.elems.set (0+(r18.i).toNat) (D.agg ((ix r19.elems (0+(r18.i).toNat)).parts.set 0 (r20.at 0)))) (0+(r18.i).toNat)).parts.set 2 (p1.at 5)))).drop (0+(ad .i64 r18.i 1).toNat)).take (r19.elems.length-(ad .i64 r18.i 1).toNat)).length)) (nI r19.elems.length))&&(leN (0+r19.elems.length) (ap (ap (((r19.elems.set (0+(r18.i).toNat) (D.agg ((ix r19.elems (0+(r18.i).toNat)).parts.set 0 (r20.at 0)))).set (0+(r18.i).toNat) (D.agg ((ix (r19.elems.set (0+(r18.i).toNat) (D.agg ((ix r19.elems (0+(r18.i).toNat)).parts.set 0 (r20.at 0)))) (0+(r18.i).toNat)).parts.set 2 (p1.at 5)))).take (0+((r18.i).toNat-0))) ((((r19.elems.set (0+(r18.i).toNat) (D.agg ((ix r19.elems (0+(r18.i).toNat)).parts.set 0 (r20.at 0)))).set (0+(r18.i).toNat) (D.agg ((ix (r19.elems.set (0+(r18.i).toNat) (D.agg ((ix r19.elems (0+(r18.i).toNat)).parts.set 0 (r20.at 0)))) (0+(r18.i).toNat)).parts.set 2 (p1.at 5)))).drop (0+(ad .i64 r18.i 1).toNat)).take (r19.elems.length-(ad .i64 r18.i 1).toNat))) (((r19.elems.set (0+(r18.i).toNat) (D.agg ((ix r19.elems (0+(r18.i).toNat)).parts.set 0 (r20.at 0)))).set (0+(r18.i).toNat) (D.agg ((ix (r19.elems.set (0+(r18.i).toNat) (D.agg ((ix r19.elems (0+(r18.i).toNat)).parts.set 0 (r20.at 0)))) (0+(r18.i).toNat)).parts.set 2 (p1.at 5)))).drop ((0+((r18.i).toNat-0))+((((r19.elems.set (0+(r18.i).toNat) (D.agg ((ix r19.elems (0+(r18.i).toNat)).parts.set 0 (r20.at 0)))).set (0+(r18.i).toNat) (D.agg ((ix (r19.elems.set (0+(r18.i).toNat) (D.agg ((ix r19.elems (0+(r18.i).toNat)).parts.set 0 (r20.at 0)))) (0+(r18.i).toNat)).parts.set 2 (p1.at 5)))).drop (0+(ad .i64 r18.i 1).toNat)).take (r19.elems.length-(ad .i64 r18.i 1).toNat)).length))).length)) (some (D.tup [(da [(dl r19.nn (((ap (ap ((ap (ap (((r19.elems.set (0+(r18.i).toNat) (D.agg ((ix r19.elems (0+(r18.i).toNat)).parts.set 0 (r20.at 0)))).set (0+(r18.i).toNat) (D.agg ((ix (r19.elems.set (0+(r18.i).toNat) (D.agg ((ix r19.elems (0+(r18.i).toNat)).parts.set 0 (r20.at 0)))) (0+(r18.i).toNat)).parts.set 2 (p1.at 5)))).take (0+((r18.i).toNat-0))) ((((r19.elems.set (0+(r18.i).toNat) (D.agg ((ix r19.elems (0+(r18.i).toNat)).parts.set 0 (r20.at 0)))).set (0+(r18.i).toNat) (D.agg ((ix (r19.elems.set (0+(r18.i).toNat) (D.agg ((ix r19.elems (0+(r18.i).toNat)).parts.set 0 (r20.at 0)))) (0+(r18.i).toNat)).parts.set 2 (p1.at 5)))).drop (0+(ad .i64 r18.i 1).toNat)).take (r19.elems.length-(ad .i64 r18.i 1).toNat))) (((r19.elems.set (0+(r18.i).toNat) (D.agg ((ix r19.elems (0+(r18.i).toNat)).parts.set 0 (r20.at 0)))).set (0+(r18.i).toNat) (D.agg ((ix (r19.elems.set (0+(r18.i).toNat) (D.agg ((ix r19.elems (0+(r18.i).toNat)).parts.set 0 (r20.at 0)))) (0+(r18.i).toNat)).parts.set 2 (p1.at 5)))).drop ((0+((r18.i).toNat-0))+((((r19.elems.set (0+(r18.i).toNat) (D.agg ((ix r19.elems (0+(r18.i).toNat)).parts.set 0 (r20.at 0)))).set (0+(r18.i).toNat) (D.agg ((ix (r19.elems.set (0+(r18.i).toNat) (D.agg ((ix r19.elems (0+(r18.i).toNat)).parts.set 0 (r20.at 0)))) (0+(r18.i).toNat)).parts.set 2 (p1.at 5)))).drop (0+(ad .i64 r18.i 1).toNat)).take (r19.elems.length-(ad .i64 r18.i 1).toNat)).length))).take (0+(((r18.i).toNat-0)+((((r19.elems.set (0+(r18.i).toNat) (D.agg ((ix r19.elems (0+(r18.i).toNat)).parts.set 0 (r20.at 0)))).set (0+(r18.i).toNat) (D.agg ((ix (r19.elems.set (0+(r18.i).toNat) (D.agg ((ix r19.elems (0+(r18.i).toNat)).parts.set 0 (r20.at 0)))) (0+(r18.i).toNat)).parts.set 2 (p1.at 5)))).drop (0+(ad .i64 r18.i 1).toNat)).take (r19.elems.length-(ad .i64 r18.i 1).toNat)).length))) (rp (r19.elems.length-(((r18.i).toNat-0)+((((r19.elems.set (0+(r18.i).toNat) (D.agg ((ix r19.elems (0+(r18.i).toNat)).parts.set 0 (r20.at 0)))).set (0+(r18.i).toNat) (D.agg ((ix (r19.elems.set (0+(r18.i).toNat) (D.agg ((ix r19.elems (0+(r18.i).toNat)).parts.set 0 (r20.at 0)))) (0+(r18.i).toNat)).parts.set 2 (p1.at 5)))).drop (0+(ad .i64 r18.i 1).toNat)).take (r19.elems.length-(ad .i64 r18.i 1).toNat)).length)) (da [(da [(di 0),(dS (bs [])),(dS (bs [])),(db false),(di 0),(dl false [])]),(di 0),(da (rp 32 (D.int .u8 0)))]))) ((ap (ap (((r19.elems.set (0+(r18.i).toNat) (D.agg ((ix r19.elems (0+(r18.i).toNat)).parts.set 0 (r20.at 0)))).set (0+(r18.i).toNat) (D.agg ((ix (r19.elems.set (0+(r18.i).toNat) (D.agg ((ix r19.elems (0+(r18.i).toNat)).parts.set 0 (r20.at 0)))) (0+(r18.i).toNat)).parts.set 2 (p1.at 5)))).take (0+((r18.i).toNat-0))) ((((r19.elems.set (0+(r18.i).toNat) (D.agg ((ix r19.elems (0+(r18.i).toNat)).parts.set 0 (r20.at 0)))).set (0+(r18.i).toNat) (D.agg ((ix (r19.elems.set (0+(r18.i).toNat) (D.agg ((ix r19.elems (0+(r18.i).toNat)).parts.set 0 (r20.at 0)))) (0+(r18.i).toNat)).parts.set 2 (p1.at 5)))).drop (0+(ad .i64 r18.i 1).toNat)).take (r19.elems.length-(ad .i64 r18.i 1).toNat))) (((r19.elems.set (0+(r18.i).toNat) (D.agg ((ix r19.elems (0+(r18.i).toNat)).parts.set 0 (r20.at 0)))).set (0+(r18.i).toNat) (D.agg ((ix (r19.elems.set (0+(r18.i).toNat) (D.agg ((ix r19.elems (0+(r18.i).toNat)).parts.set 0 (r20.at 0)))) (0+(r18.i).toNat)).parts.set 2 (p1.at 5)))).drop ((0+((r18.i).toNat-0))+((((r19.elems.set (0+(r18.i).toNat) (D.agg ((ix r19.elems (0+(r18.i).toNat)).parts.set 0 (r20.at 0)))).set (0+(r18.i).toNat) (D.agg ((ix (r19.elems.set (0+(r18.i).toNat) (D.agg ((ix r19.elems (0+(r18.i).toNat)).parts.set 0 (r20.at 0)))) (0+(r18.i).toNat)).parts.set 2 (p1.at 5)))).drop (0+(ad .i64 r18.i 1).toNat)).take (r19.elems.length-(ad .i64 r18.i 1).toNat)).length))).drop ((0+(((r18.i).toNat-0)+((((r19.elems.set (0+(r18.i).toNat) (D.agg ((ix r19.elems (0+(r18.i).toNat)).parts.set 0 (r20.at 0)))).set (0+(r18.i).toNat) (D.agg ((ix (r19.elems.set (0+(r18.i).toNat) (D.agg ((ix r19.elems (0+(r18.i).toNat)).parts.set 0 (r20.at 0)))) (0+(r18.i).toNat)).parts.set 2 (p1.at 5)))).drop (0+(ad .i64 r18.i 1).toNat)).take (r19.elems.length-(ad .i64 r18.i 1).toNat)).length))+(r19.elems.length-(((r18.i).toNat-0)+((((r19.elems.set (0+(r18.i).toNat) (D.agg ((ix r19.elems (0+(r18.i).toNat)).parts.set 0 (r20.at 0)))).set (0+(r18.i).toNat) (D.agg ((ix (r19.elems.set (0+(r18.i).toNat) (D.agg ((ix r19.elems (0+(r18.i).toNat)).parts.set 0 (r20.at 0)))) (0+(r18.i).toNat)).parts.set 2 (p1.at 5)))).drop (0+(ad .i64 r18.i 1).toNat)).take (r19.elems.length-(ad .i64 r18.i 1).toNat)).length))))).drop 0).take (((r18.i).toNat-0)+((((r19.elems.set (0+(r18.i).toNat) (D.agg ((ix r19.elems (0+(r18.i).toNat)).parts.set 0 (r20.at 0)))).set (0+(r18.i).toNat) (D.agg ((ix (r19.elems.set (0+(r18.i).toNat) (D.agg ((ix r19.elems (0+(r18.i).toNat)).parts.set 0 (r20.at 0)))) (0+(r18.i).toNat)).parts.set 2 (p1.at 5)))).drop (0+(ad .i64 r18.i 1).toNat)).take (r19.elems.length-(ad .i64 r18.i 1).toNat)).length))),(p0.at 1),(p0.at 2)]),(di 0)])) none) none) none) none)) none) (some (D.tup [(da [(dl r19.nn ((((r19.elems.set (0+(r18.i).toNat) (D.agg ((ix r19.elems (0+(r18.i).toNat)).parts.set 0 (r20.at 0)))).set (0+(r18.i).toNat) (D.agg ((ix (r19.elems.set (0+(r18.i).toNat) (D.agg ((ix r19.elems (0+(r18.i).toNat)).parts.set 0 (r20.at 0)))) (0+(r18.i).toNat)).parts.set 2 (p1.at 5)))).drop 0).take r19.elems.length)),(p0.at 1),(p0.at 2)]),(di 0)])))) (cond (!(eqI (r20.at 1).i 0)) (some (D.tup [p0,(di 13)])) (cond (eqI (p1.at 0).i 6) (cond ((leI 0 r18.i)&&(leI r18.i (ad .i64 r18.i 1))&&(leI (ad .i64 r18.i 1) (nI r19.elems.length))&&(leI (nI r19.elems.length) (nI r19.elems.length))&&(eqN (0+r19.elems.length) (r19.elems.set (0+(r18.i).toNat) (D.agg ((ix r19.elems (0+(r18.i).toNat)).parts.set 2 (p1.at 5)))).length)) (cond (eqI r18.i (ad .i64 r18.i 1)) (some (D.tup [(da [(dl r19.nn (((r19.elems.set (0+(r18.i).toNat) (D.agg ((ix r19.elems (0+(r18.i).toNat)).parts.set 2 (p1.at 5)))).drop 0).take r19.elems.length)),(p0.at 1),(p0.at 2)]),(di 0)])) (cond (true&&(leI 0 r18.i)&&(leN (0+(r18.i).toNat) (r19.elems.set (0+(r18.i).toNat) (D.agg ((ix r19.elems (0+(r18.i).toNat)).parts.set 2 (p1.at 5)))).length)) (cond ((leI 0 (ad .i64 r18.i 1))&&(leI (ad .i64 r18.i 1) (nI r19.elems.length))&&(leN (0+r19.elems.length) (r19.elems.set (0+(r18.i).toNat) (D.agg ((ix r19.elems (0+(r18.i).toNat)).parts.set 2 (p1.at 5)))).length)) (cond (leN ((0+((r18.i).toNat-0))+(((r19.elems.set (0+(r18.i).toNat) (D.agg ((ix r19.elems (0+(r18.i).toNat)).parts.set 2 (p1.at 5)))).drop (0+(ad .i64 r18.i 1).toNat)).take (r19.elems.length-(ad .i64 r18.i 1).toNat)).length) (r19.elems.set (0+(r18.i).toNat) (D.agg ((ix r19.elems (0+(r18.i).toNat)).parts.set 2 (p1.at 5)))).length) (cond ((leI 0 (nI (((r18.i).toNat-0)+(((r19.elems.set (0+(r18.i).toNat) (D.agg ((ix r19.elems (0+(r18.i).toNat)).parts.set 2 (p1.at 5)))).drop (0+(ad .i64 r18.i 1).toNat)).take (r19.elems.length-(ad .i64 r18.i 1).toNat)).length)))&&(leI (nI (((r18.i).toNat-0)+(((r19.elems.set (0+(r18.i).toNat) (D.agg ((ix r19.elems (0+(r18.i).toNat)).parts.set 2 (p1.at 5)))).drop (0+(ad .i64 r18.i 1).toNat)).take (r19.elems.length-(ad .i64 r18.i 1).toNat)).length)) (nI r19.elems.length))&&(leN (0+r19.elems.length) (ap (ap ((r19.elems.set (0+(r18.i).toNat) (D.agg ((ix r19.elems (0+(r18.i).toNat)).parts.set 2 (p1.at 5)))).take (0+((r18.i).toNat-0))) (((r19.elems.set (0+(r18.i).toNat) (D.agg ((ix r19.elems (0+(r18.i).toNat)).parts.set 2 (p1.at 5)))).drop (0+(ad .i64 r18.i 1).toNat)).take (r19.elems.length-(ad .i64 r18.i 1).toNat))) ((r19.elems.set (0+(r18.i).toNat) (D.agg ((ix r19.elems (0+(r18.i).toNat)).parts.set 2 (p1.at 5)))).drop ((0+((r18.i).toNat-0))+(((r19.elems.set (0+(r18.i).toNat) (D.agg ((ix r19.elems (0+(r18.i).toNat)).parts.set 2 (p1.at 5)))).drop (0+(ad .i64 r18.i 1).toNat)).take (r19.elems.length-(ad .i64 r18.i 1).toNat)).length))).length)) (some (D.tup [(da [(dl r19.nn (((ap (ap ((ap (ap ((r19.elems.set (0+(r18.i).toNat) (D.agg ((ix r19.elems (0+(r18.i).toNat)).parts.set 2 (p1.at 5)))).take (0+((r18.i).toNat-0))) (((r19.elems.set (0+(r18.i).toNat) (D.agg ((ix r19.elems (0+(r18.i).toNat)).parts.set 2 (p1.at 5)))).drop (0+(ad .i64 r18.i 1).toNat)).take (r19.elems.length-(ad .i64 r18.i 1).toNat))) ((r19.elems.set (0+(r18.i).toNat) (D.agg ((ix r19.elems (0+(r18.i).toNat)).parts.set 2 (p1.at 5)))).drop ((0+((r18.i).toNat-0))+(((r19.elems.set (0+(r18.i).toNat) (D.agg ((ix r19.elems (0+(r18.i).toNat)).parts.set 2 (p1.at 5)))).drop (0+(ad .i64 r18.i 1).toNat)).take (r19.elems.length-(ad .i64 r18.i 1).toNat)).length))).take (0+(((r18.i).toNat-0)+(((r19.elems.set (0+(r18.i).toNat) (D.agg ((ix r19.elems (0+(r18.i).toNat)).parts.set 2 (p1.at 5)))).drop (0+(ad .i64 r18.i 1).toNat)).take (r19.elems.length-(ad .i64 r18.i 1).toNat)).length))) (rp (r19.elems.length-(((r18.i).toNat-0)+(((r19.elems.set (0+(r18.i).toNat) (D.agg ((ix r19.elems (0+(r18.i).toNat)).parts.set 2 (p1.at 5)))).drop (0+(ad .i64 r18.i 1).toNat)).take (r19.elems.length-(ad .i64 r18.i 1).toNat)).length)) (da [(da [(di 0),(dS (bs [])),(dS (bs [])),(db false),(di 0),(dl false [])]),(di 0),(da (rp 32 (D.int .u8 0)))]))) ((ap (ap ((r19.elems.set (0+(r18.i).toNat) (D.agg ((ix r19.elems (0+(r18.i).toNat)).parts.set 2 (p1.at 5)))).take (0+((r18.i).toNat-0))) (((r19.elems.set (0+(r18.i).toNat) (D.agg ((ix r19.elems (0+(r18.i).toNat)).parts.set 2 (p1.at 5)))).drop (0+(ad .i64 r18.i 1).toNat)).take (r19.elems.length-(ad .i64 r18.i 1).toNat))) ((r19.elems.set (0+(r18.i).toNat) (D.agg ((ix r19.elems (0+(r18.i).toNat)).parts.set 2 (p1.at 5)))).drop ((0+((r18.i).toNat-0))+(((r19.elems.set (0+(r18.i).toNat) (D.agg ((ix r19.elems (0+(r18.i).toNat)).parts.set 2 (p1.at 5)))).drop (0+(ad .i64 r18.i 1).toNat)).take (r19.elems.length-(ad .i64 r18.i 1).toNat)).length))).drop ((0+(((r18.i).toNat-0)+(((r19.elems.set (0+(r18.i).toNat) (D.agg ((ix r19.elems (0+(r18.i).toNat)).parts.set 2 (p1.at 5)))).drop (0+(ad .i64 r18.i 1).toNat)).take (r19.elems.length-(ad .i64 r18.i 1).toNat)).length))+(r19.elems.length-(((r18.i).toNat-0)+(((r19.elems.set (0+(r18.i).toNat) (D.agg ((ix r19.elems (0+(r18.i).toNat)).parts.set 2 (p1.at 5)))).drop (0+(ad .i64 r18.i 1).toNat)).take (r19.elems.length-(ad .i64 r18.i 1).toNat)).length))))).drop 0).take (((r18.i).toNat-0)+(((r19.elems.set (0+(r18.i).toNat) (D.agg ((ix r19.elems (0+(r18.i).toNat)).parts.set 2 (p1.at 5)))).drop (0+(ad .i64 r18.i 1).toNat)).take (r19.elems.length-(ad .i64 r18.i 1).toNat)).length))),(p0.at 1),(p0.at 2)]),(di 0)])) none) none) none) none)) none) (some (D.tup [(da [(dl r19.nn (((r19.elems.set (0+(r18.i).toNat) (D.agg ((ix r19.elems (0+(r18.i).toNat)).parts.set 2 (p1.at 5)))).drop 0).take r19.elems.length)),(p0.at 1),(p0.at 2)]),(di 0)]))))))) none)))) (cond (eqI (p1.at 0).i 3) (bd (F31.s FUEL p0 (p1.at 1).i) fun r21=>(cond (ltI r21.i 0) (some (D.tup [p0,(di 13)])) (bd (F36.s FUEL (p0.at 0)) fun r22=>(cond (inb r21.i r22.elems.length) (bd (F79.s FUEL ((ix r22.elems (0+(r21.i).toNat)).at 0) (p1.at 3).i) fun r23=>(cond (eqI (r23.at 1).i 0) (cond (!(eqI (r23.at 1).i 0)) (some (D.tup [p0,(di 13)])) (cond (eqI (p1.at 0).i 6) (cond ((leI 0 r21.i)&&(leI r21.i (ad .i64 r21.i 1))&&(leI (ad .i64 r21.i 1) (nI r22.elems.length))&&(leI (nI r22.elems.length) (nI r22.elems.length))&&(eqN (0+r22.elems.length) (r22.elems.set (0+(r21.i).toNat) (D.agg ((ix r22.elems (0+(r21.i).toNat)).parts.set 0 (r23.at 0)))).length)) (cond (eqI r21.i (ad .i64 r21.i 1)) (some (D.tup [(da [(dl r22.nn (((r22.elems.set (0+(r21.i).toNat) (D.agg ((ix r22.elems (0+(r21.i).toNat)).parts.set 0 (r23.at 0)))).drop 0).take r22.elems.length)),(p0.at 1),(p0.at 2)]),(di 0)])) (cond (true&&(leI 0 r21.i)&&(leN (0+(r21.i).toNat) (r22.elems.set (0+(r21.i).toNat) (D.agg ((ix r22.elems (0+(r21.i).toNat)).parts.set 0 (r23.at 0)))).length)) (cond ((leI 0 (ad .i64 r21.i 1))&&(leI (ad .i64 r21.i 1) (nI r22.elems.length))&&(leN (0+r22.elems.length) (r22.elems.set (0+(r21.i).toNat) (D.agg ((ix r22.elems (0+(r21.i).toNat)).parts.set 0 (r23.at 0)))).length)) (cond (leN ((0+((r21.i).toNat-0))+(((r22.elems.set (0+(r21.i).toNat) (D.agg ((ix r22.elems (0+(r21.i).toNat)).parts.set 0 (r23.at 0)))).drop (0+(ad .i64 r21.i 1).toNat)).take (r22.elems.length-(ad .i64 r21.i 1).toNat)).length) (r22.elems.set (0+(r21.i).toNat) (D.agg ((ix r22.elems (0+(r21.i).toNat)).parts.set 0 (r23.at 0)))).length) (cond ((leI 0 (nI (((r21.i).toNat-0)+(((r22.elems.set (0+(r21.i).toNat) (D.agg ((ix r22.elems (0+(r21.i).toNat)).parts.set 0 (r23.at 0)))).drop (0+(ad .i64 r21.i 1).toNat)).take (r22.elems.length-(ad .i64 r21.i 1).toNat)).length)))&&(leI (nI (((r21.i).toNat-0)+(((r22.elems.set (0+(r21.i).toNat) (D.agg ((ix r22.elems (0+(r21.i).toNat)).parts.set 0 (r23.at 0)))).drop (0+(ad .i64 r21.i 1).toNat)).take (r22.elems.length-(ad .i64 r21.i 1).toNat)).length)) (nI r22.elems.length))&&(leN (0+r22.elems.length) (ap (ap ((r22.elems.set (0+(r21.i).toNat) (D.agg ((ix r22.elems (0+(r21.i).toNat)).parts.set 0 (r23.at 0)))).take (0+((r21.i).toNat-0))) (((r22.elems.set (0+(r21.i).toNat) (D.agg ((ix r22.elems (0+(r21.i).toNat)).parts.set 0 (r23.at 0)))).drop (0+(ad .i64 r21.i 1).toNat)).take (r22.elems.length-(ad .i64 r21.i 1).toNat))) ((r22.elems.set (0+(r21.i).toNat) (D.agg ((ix r22.elems (0+(r21.i).toNat)).parts.set 0 (r23.at 0)))).drop ((0+((r21.i).toNat-0))+(((r22.elems.set (0+(r21.i).toNat) (D.agg ((ix r22.elems (0+(r21.i).toNat)).parts.set 0 (r23.at 0)))).drop (0+(ad .i64 r21.i 1).toNat)).take (r22.elems.length-(ad .i64 r21.i 1).toNat)).length))).length)) (some (D.tup [(da [(dl r22.nn (((ap (ap ((ap (ap ((r22.elems.set (0+(r21.i).toNat) (D.agg ((ix r22.elems (0+(r21.i).toNat)).parts.set 0 (r23.at 0)))).take (0+((r21.i).toNat-0))) (((r22.elems.set (0+(r21.i).toNat) (D.agg ((ix r22.elems (0+(r21.i).toNat)).parts.set 0 (r23.at 0)))).drop (0+(ad .i64 r21.i 1).toNat)).take (r22.elems.length-(ad .i64 r21.i 1).toNat))) ((r22.elems.set (0+(r21.i).toNat) (D.agg ((ix r22.elems (0+(r21.i).toNat)).parts.set 0 (r23.at 0)))).drop ((0+((r21.i).toNat-0))+(((r22.elems.set (0+(r21.i).toNat) (D.agg ((ix r22.elems (0+(r21.i).toNat)).parts.set 0 (r23.at 0)))).drop (0+(ad .i64 r21.i 1).toNat)).take (r22.elems.length-(ad .i64 r21.i 1).toNat)).length))).take (0+(((r21.i).toNat-0)+(((r22.elems.set (0+(r21.i).toNat) (D.agg ((ix r22.elems (0+(r21.i).toNat)).parts.set 0 (r23.at 0)))).drop (0+(ad .i64 r21.i 1).toNat)).take (r22.elems.length-(ad .i64 r21.i 1).toNat)).length))) (rp (r22.elems.length-(((r21.i).toNat-0)+(((r22.elems.set (0+(r21.i).toNat) (D.agg ((ix r22.elems (0+(r21.i).toNat)).parts.set 0 (r23.at 0)))).drop (0+(ad .i64 r21.i 1).toNat)).take (r22.elems.length-(ad .i64 r21.i 1).toNat)).length)) (da [(da [(di 0),(dS (bs [])),(dS (bs [])),(db false),(di 0),(dl false [])]),(di 0),(da (rp 32 (D.int .u8 0)))]))) ((ap (ap ((r22.elems.set (0+(r21.i).toNat) (D.agg ((ix r22.elems (0+(r21.i).toNat)).parts.set 0 (r23.at 0)))).take (0+((r21.i).toNat-0))) (((r22.elems.set (0+(r21.i).toNat) (D.agg ((ix r22.elems (0+(r21.i).toNat)).parts.set 0 (r23.at 0)))).drop (0+(ad .i64 r21.i 1).toNat)).take (r22.elems.length-(ad .i64 r21.i 1).toNat))) ((r22.elems.set (0+(r21.i).toNat) (D.agg ((ix r22.elems (0+(r21.i).toNat)).parts.set 0 (r23.at 0)))).drop ((0+((r21.i).toNat-0))+(((r22.elems.set (0+(r21.i).toNat) (D.agg ((ix r22.elems (0+(r21.i).toNat)).parts.set 0 (r23.at 0)))).drop (0+(ad .i64 r21.i 1).toNat)).take (r22.elems.length-(ad .i64 r21.i 1).toNat)).length))).drop ((0+(((r21.i).toNat-0)+(((r22.elems.set (0+(r21.i).toNat) (D.agg ((ix r22.elems (0+(r21.i).toNat)).parts.set 0 (r23.at 0)))).drop (0+(ad .i64 r21.i 1).toNat)).take (r22.elems.length-(ad .i64 r21.i 1).toNat)).length))+(r22.elems.length-(((r21.i).toNat-0)+(((r22.elems.set (0+(r21.i).toNat) (D.agg ((ix r22.elems (0+(r21.i).toNat)).parts.set 0 (r23.at 0)))).drop (0+(ad .i64 r21.i 1).toNat)).take (r22.elems.length-(ad .i64 r21.i 1).toNat)).length))))).drop 0).take (((r21.i).toNat-0)+(((r22.elems.set (0+(r21.i).toNat) (D.agg ((ix r22.elems (0+(r21.i).toNat)).parts.set 0 (r23.at 0)))).drop (0+(ad .i64 r21.i 1).toNat)).take (r22.elems.length-(ad .i64 r21.i 1).toNat)).length))),(p0.at 1),(p0.at 2)]),(di 0)])) none) none) none) none)) none) (some (D.tup [(da [(dl r22.nn (((r22.elems.set (0+(r21.i).toNat) (D.agg ((ix r22.elems (0+(r21.i).toNat)).parts.set 0 (r23.at 0)))).drop 0).take r22.elems.length)),(p0.at 1),(p0.at 2)]),(di 0)])))) (cond (!(eqI (r23.at 1).i 0)) (some (D.tup [p0,(di 13)])) (cond (eqI (p1.at 0).i 6) (cond ((leI 0 r21.i)&&(leI r21.i (ad .i64 r21.i 1))&&(leI (ad .i64 r21.i 1) (nI r22.elems.length))&&(leI (nI r22.elems.length) (nI r22.elems.length))&&(eqN (0+r22.elems.length) r22.elems.length)) (cond (eqI r21.i (ad .i64 r21.i 1)) (some (D.tup [(da [(dl r22.nn ((r22.elems.drop 0).take r22.elems.length)),(p0.at 1),(p0.at 2)]),(di 0)])) (cond (true&&(leI 0 r21.i)&&(leN (0+(r21.i).toNat) r22.elems.length)) (cond ((leI 0 (ad .i64 r21.i 1))&&(leI (ad .i64 r21.i 1) (nI r22.elems.length))&&(leN (0+r22.elems.length) r22.elems.length)) (cond (leN ((0+((r21.i).toNat-0))+((r22.elems.drop (0+(ad .i64 r21.i 1).toNat)).take (r22.elems.length-(ad .i64 r21.i 1).toNat)).length) r22.elems.length) (cond ((leI 0 (nI (((r21.i).toNat-0)+((r22.elems.drop (0+(ad .i64 r21.i 1).toNat)).take (r22.elems.length-(ad .i64 r21.i 1).toNat)).length)))&&(leI (nI (((r21.i).toNat-0)+((r22.elems.drop (0+(ad .i64 r21.i 1).toNat)).take (r22.elems.length-(ad .i64 r21.i 1).toNat)).length)) (nI r22.elems.length))&&(leN (0+r22.elems.length) (ap (ap (r22.elems.take (0+((r21.i).toNat-0))) ((r22.elems.drop (0+(ad .i64 r21.i 1).toNat)).take (r22.elems.length-(ad .i64 r21.i 1).toNat))) (r22.elems.drop ((0+((r21.i).toNat-0))+((r22.elems.drop (0+(ad .i64 r21.i 1).toNat)).take (r22.elems.length-(ad .i64 r21.i 1).toNat)).length))).length)) (some (D.tup [(da [(dl r22.nn (((ap (ap ((ap (ap (r22.elems.take (0+((r21.i).toNat-0))) ((r22.elems.drop (0+(ad .i64 r21.i 1).toNat)).take (r22.elems.length-(ad .i64 r21.i 1).toNat))) (r22.elems.drop ((0+((r21.i).toNat-0))+((r22.elems.drop (0+(ad .i64 r21.i 1).toNat)).take (r22.elems.length-(ad .i64 r21.i 1).toNat)).length))).take (0+(((r21.i).toNat-0)+((r22.elems.drop (0+(ad .i64 r21.i 1).toNat)).take (r22.elems.length-(ad .i64 r21.i 1).toNat)).length))) (rp (r22.elems.length-(((r21.i).toNat-0)+((r22.elems.drop (0+(ad .i64 r21.i 1).toNat)).take (r22.elems.length-(ad .i64 r21.i 1).toNat)).length)) (da [(da [(di 0),(dS (bs [])),(dS (bs [])),(db false),(di 0),(dl false [])]),(di 0),(da (rp 32 (D.int .u8 0)))]))) ((ap (ap (r22.elems.take (0+((r21.i).toNat-0))) ((r22.elems.drop (0+(ad .i64 r21.i 1).toNat)).take (r22.elems.length-(ad .i64 r21.i 1).toNat))) (r22.elems.drop ((0+((r21.i).toNat-0))+((r22.elems.drop (0+(ad .i64 r21.i 1).toNat)).take (r22.elems.length-(ad .i64 r21.i 1).toNat)).length))).drop ((0+(((r21.i).toNat-0)+((r22.elems.drop (0+(ad .i64 r21.i 1).toNat)).take (r22.elems.length-(ad .i64 r21.i 1).toNat)).length))+(r22.elems.length-(((r21.i).toNat-0)+((r22.elems.drop (0+(ad .i64 r21.i 1).toNat)).take (r22.elems.length-(ad .i64 r21.i 1).toNat)).length))))).drop 0).take (((r21.i).toNat-0)+((r22.elems.drop (0+(ad .i64 r21.i 1).toNat)).take (r22.elems.length-(ad .i64 r21.i 1).toNat)).length))),(p0.at 1),(p0.at 2)]),(di 0)])) none) none) none) none)) none) (some (D.tup [(da [(dl r22.nn ((r22.elems.drop 0).take r22.elems.length)),(p0.at 1),(p0.at 2)]),(di 0)])))))) none)))) (cond (eqI (p1.at 0).i 4) (bd (F31.s FUEL p0 (p1.at 1).i) fun r24=>(cond (ltI r24.i 0) (some (D.tup [p0,(di 13)])) (bd (F36.s FUEL (p0.at 0)) fun r25=>(cond (inb r24.i r25.elems.length) (bd (F81.s FUEL ((ix r25.elems (0+(r24.i).toNat)).at 0) (p1.at 2).s) fun r26=>(cond (eqI (r26.at 1).i 0) (cond (!(eqI (r26.at 1).i 0)) (some (D.tup [p0,(di 13)])) (cond (eqI (p1.at 0).i 6) (cond ((leI 0 r24.i)&&(leI r24.i (ad .i64 r24.i 1))&&(leI (ad .i64 r24.i 1) (nI r25.elems.length))&&(leI (nI r25.elems.length) (nI r25.elems.length))&&(eqN (0+r25.elems.length) (r25.elems.set (0+(r24.i).toNat) (D.agg ((ix r25.elems (0+(r24.i).toNat)).parts.set 0 (r26.at 0)))).length)) (cond (eqI r24.i (ad .i64 r24.i 1)) (some (D.tup [(da [(dl r25.nn (((r25.elems.set (0+(r24.i).toNat) (D.agg ((ix r25.elems (0+(r24.i).toNat)).parts.set 0 (r26.at 0)))).drop 0).take r25.elems.length)),(p0.at 1),(p0.at 2)]),(di 0)])) (cond (true&&(leI 0 r24.i)&&(leN (0+(r24.i).toNat) (r25.elems.set (0+(r24.i).toNat) (D.agg ((ix r25.elems (0+(r24.i).toNat)).parts.set 0 (r26.at 0)))).length)) (cond ((leI 0 (ad .i64 r24.i 1))&&(leI (ad .i64 r24.i 1) (nI r25.elems.length))&&(leN (0+r25.elems.length) (r25.elems.set (0+(r24.i).toNat) (D.agg ((ix r25.elems (0+(r24.i).toNat)).parts.set 0 (r26.at 0)))).length)) (cond (leN ((0+((r24.i).toNat-0))+(((r25.elems.set (0+(r24.i).toNat) (D.agg ((ix r25.elems (0+(r24.i).toNat)).parts.set 0 (r26.at 0)))).drop (0+(ad .i64 r24.i 1).toNat)).take (r25.elems.length-(ad .i64 r24.i 1).toNat)).length) (r25.elems.set (0+(r24.i).toNat) (D.agg ((ix r25.elems (0+(r24.i).toNat)).parts.set 0 (r26.at 0)))).length) (cond ((leI 0 (nI (((r24.i).toNat-0)+(((r25.elems.set (0+(r24.i).toNat) (D.agg ((ix r25.elems (0+(r24.i).toNat)).parts.set 0 (r26.at 0)))).drop (0+(ad .i64 r24.i 1).toNat)).take (r25.elems.length-(ad .i64 r24.i 1).toNat)).length)))&&(leI (nI (((r24.i).toNat-0)+(((r25.elems.set (0+(r24.i).toNat) (D.agg ((ix r25.elems (0+(r24.i).toNat)).parts.set 0 (r26.at 0)))).drop (0+(ad .i64 r24.i 1).toNat)).take (r25.elems.length-(ad .i64 r24.i 1).toNat)).length)) (nI r25.elems.length))&&(leN (0+r25.elems.length) (ap (ap ((r25.elems.set (0+(r24.i).toNat) (D.agg ((ix r25.elems (0+(r24.i).toNat)).parts.set 0 (r26.at 0)))).take (0+((r24.i).toNat-0))) (((r25.elems.set (0+(r24.i).toNat) (D.agg ((ix r25.elems (0+(r24.i).toNat)).parts.set 0 (r26.at 0)))).drop (0+(ad .i64 r24.i 1).toNat)).take (r25.elems.length-(ad .i64 r24.i 1).toNat))) ((r25.elems.set (0+(r24.i).toNat) (D.agg ((ix r25.elems (0+(r24.i).toNat)).parts.set 0 (r26.at 0)))).drop ((0+((r24.i).toNat-0))+(((r25.elems.set (0+(r24.i).toNat) (D.agg ((ix r25.elems (0+(r24.i).toNat)).parts.set 0 (r26.at 0)))).drop (0+(ad .i64 r24.i 1).toNat)).take (r25.elems.length-(ad .i64 r24.i 1).toNat)).length))).length)) (some (D.tup [(da [(dl r25.nn (((ap (ap ((ap (ap ((r25.elems.set (0+(r24.i).toNat) (D.agg ((ix r25.elems (0+(r24.i).toNat)).parts.set 0 (r26.at 0)))).take (0+((r24.i).toNat-0))) (((r25.elems.set (0+(r24.i).toNat) (D.agg ((ix r25.elems (0+(r24.i).toNat)).parts.set 0 (r26.at 0)))).drop (0+(ad .i64 r24.i 1).toNat)).take (r25.elems.length-(ad .i64 r24.i 1).toNat))) ((r25.elems.set (0+(r24.i).toNat) (D.agg ((ix r25.elems (0+(r24.i).toNat)).parts.set 0 (r26.at 0)))).drop ((0+((r24.i).toNat-0))+(((r25.elems.set (0+(r24.i).toNat) (D.agg ((ix r25.elems (0+(r24.i).toNat)).parts.set 0 (r26.at 0)))).drop (0+(ad .i64 r24.i 1).toNat)).take (r25.elems.length-(ad .i64 r24.i 1).toNat)).length))).take (0+(((r24.i).toNat-0)+(((r25.elems.set (0+(r24.i).toNat) (D.agg ((ix r25.elems (0+(r24.i).toNat)).parts.set 0 (r26.at 0)))).drop (0+(ad .i64 r24.i 1).toNat)).take (r25.elems.length-(ad .i64 r24.i 1).toNat)).length))) (rp (r25.elems.length-(((r24.i).toNat-0)+(((r25.elems.set (0+(r24.i).toNat) (D.agg ((ix r25.elems (0+(r24.i).toNat)).parts.set 0 (r26.at 0)))).drop (0+(ad .i64 r24.i 1).toNat)).take (r25.elems.length-(ad .i64 r24.i 1).toNat)).length)) (da [(da [(di 0),(dS (bs [])),(dS (bs [])),(db false),(di 0),(dl false [])]),(di 0),(da (rp 32 (D.int .u8 0)))]))) ((ap (ap ((r25.elems.set (0+(r24.i).toNat) (D.agg ((ix r25.elems (0+(r24.i).toNat)).parts.set 0 (r26.at 0)))).take (0+((r24.i).toNat-0))) (((r25.elems.set (0+(r24.i).toNat) (D.agg ((ix r25.elems (0+(r24.i).toNat)).parts.set 0 (r26.at 0)))).drop (0+(ad .i64 r24.i 1).toNat)).take (r25.elems.length-(ad .i64 r24.i 1).toNat))) ((r25.elems.set (0+(r24.i).toNat) (D.agg ((ix r25.elems (0+(r24.i).toNat)).parts.set 0 (r26.at 0)))).drop ((0+((r24.i).toNat-0))+(((r25.elems.set (0+(r24.i).toNat) (D.agg ((ix r25.elems (0+(r24.i).toNat)).parts.set 0 (r26.at 0)))).drop (0+(ad .i64 r24.i 1).toNat)).take (r25.elems.length-(ad .i64 r24.i 1).toNat)).length))).drop ((0+(((r24.i).toNat-0)+(((r25.elems.set (0+(r24.i).toNat) (D.agg ((ix r25.elems (0+(r24.i).toNat)).parts.set 0 (r26.at 0)))).drop (0+(ad .i64 r24.i 1).toNat)).take (r25.elems.length-(ad .i64 r24.i 1).toNat)).length))+(r25.elems.length-(((r24.i).toNat-0)+(((r25.elems.set (0+(r24.i).toNat) (D.agg ((ix r25.elems (0+(r24.i).toNat)).parts.set 0 (r26.at 0)))).drop (0+(ad .i64 r24.i 1).toNat)).take (r25.elems.length-(ad .i64 r24.i 1).toNat)).length))))).drop 0).take (((r24.i).toNat-0)+(((r25.elems.set (0+(r24.i).toNat) (D.agg ((ix r25.elems (0+(r24.i).toNat)).parts.set 0 (r26.at 0)))).drop (0+(ad .i64 r24.i 1).toNat)).take (r25.elems.length-(ad .i64 r24.i 1).toNat)).length))),(p0.at 1),(p0.at 2)]),(di 0)])) none) none) none) none)) none) (some (D.tup [(da [(dl r25.nn (((r25.elems.set (0+(r24.i).toNat) (D.agg ((ix r25.elems (0+(r24.i).toNat)).parts.set 0 (r26.at 0)))).drop 0).take r25.elems.length)),(p0.at 1),(p0.at 2)]),(di 0)])))) (cond (!(eqI (r26.at 1).i 0)) (some (D.tup [p0,(di 13)])) (cond (eqI (p1.at 0).i 6) (cond ((leI 0 r24.i)&&(leI r24.i (ad .i64 r24.i 1))&&(leI (ad .i64 r24.i 1) (nI r25.elems.length))&&(leI (nI r25.elems.length) (nI r25.elems.length))&&(eqN (0+r25.elems.length) r25.elems.length)) (cond (eqI r24.i (ad .i64 r24.i 1)) (some (D.tup [(da [(dl r25.nn ((r25.elems.drop 0).take r25.elems.length)),(p0.at 1),(p0.at 2)]),(di 0)])) (cond (true&&(leI 0 r24.i)&&(leN (0+(r24.i).toNat) r25.elems.length)) (cond ((leI 0 (ad .i64 r24.i 1))&&(leI (ad .i64 r24.i 1) (nI r25.elems.length))&&(leN (0+r25.elems.length) r25.elems.length)) (cond (leN ((0+((r24.i).toNat-0))+((r25.elems.drop (0+(ad .i64 r24.i 1).toNat)).take (r25.elems.length-(ad .i64 r24.i 1).toNat)).length) r25.elems.length) (cond ((leI 0 (nI (((r24.i).toNat-0)+((r25.elems.drop (0+(ad .i64 r24.i 1).toNat)).take (r25.elems.length-(ad .i64 r24.i 1).toNat)).length)))&&(leI (nI (((r24.i).toNat-0)+((r25.elems.drop (0+(ad .i64 r24.i 1).toNat)).take (r25.elems.length-(ad .i64 r24.i 1).toNat)).length)) (nI r25.elems.length))&&(leN (0+r25.elems.length) (ap (ap (r25.elems.take (0+((r24.i).toNat-0))) ((r25.elems.drop (0+(ad .i64 r24.i 1).toNat)).take (r25.elems.length-(ad .i64 r24.i 1).toNat))) (r25.elems.drop ((0+((r24.i).toNat-0))+((r25.elems.drop (0+(ad .i64 r24.i 1).toNat)).take (r25.elems.length-(ad .i64 r24.i 1).toNat)).length))).length)) (some (D.tup [(da [(dl r25.nn (((ap (ap ((ap (ap (r25.elems.take (0+((r24.i).toNat-0))) ((r25.elems.drop (0+(ad .i64 r24.i 1).toNat)).take (r25.elems.length-(ad .i64 r24.i 1).toNat))) (r25.elems.drop ((0+((r24.i).toNat-0))+((r25.elems.drop (0+(ad .i64 r24.i 1).toNat)).take (r25.elems.length-(ad .i64 r24.i 1).toNat)).length))).take (0+(((r24.i).toNat-0)+((r25.elems.drop (0+(ad .i64 r24.i 1).toNat)).take (r25.elems.length-(ad .i64 r24.i 1).toNat)).length))) (rp (r25.elems.length-(((r24.i).toNat-0)+((r25.elems.drop (0+(ad .i64 r24.i 1).toNat)).take (r25.elems.length-(ad .i64 r24.i 1).toNat)).length)) (da [(da [(di 0),(dS (bs [])),(dS (bs [])),(db false),(di 0),(dl false [])]),(di 0),(da (rp 32 (D.int .u8 0)))]))) ((ap (ap (r25.elems.take (0+((r24.i).toNat-0))) ((r25.elems.drop (0+(ad .i64 r24.i 1).toNat)).take (r25.elems.length-(ad .i64 r24.i 1).toNat))) (r25.elems.drop ((0+((r24.i).toNat-0))+((r25.elems.drop (0+(ad .i64 r24.i 1).toNat)).take (r25.elems.length-(ad .i64 r24.i 1).toNat)).length))).drop ((0+(((r24.i).toNat-0)+((r25.elems.drop (0+(ad .i64 r24.i 1).toNat)).take (r25.elems.length-(ad .i64 r24.i 1).toNat)).length))+(r25.elems.length-(((r24.i).toNat-0)+((r25.elems.drop (0+(ad .i64 r24.i 1).toNat)).take (r25.elems.length-(ad .i64 r24.i 1).toNat)).length))))).drop 0).take (((r24.i).toNat-0)+((r25.elems.drop (0+(ad .i64 r24.i 1).toNat)).take (r25.elems.length-(ad .i64 r24.i 1).toNat)).length))),(p0.at 1),(p0.at 2)]),(di 0)])) none) none) none) none)) none) (some (D.tup [(da [(dl r25.nn ((r25.elems.drop 0).take r25.elems.length)),(p0.at 1),(p0.at 2)]),(di 0)])))))) none)))) (cond (eqI (p1.at 0).i 5) (bd (F31.s FUEL p0 (p1.at 1).i) fun r27=>(cond (ltI r27.i 0) (some (D.tup [p0,(di 13)])) (bd (F36.s FUEL (p0.at 0)) fun r28=>(cond (inb r27.i r28.elems.length) (bd (F83.s FUEL ((ix r28.elems (0+(r27.i).toNat)).at 0) (p1.at 2).s) fun r29=>(cond (eqI (r29.at 1).i 0) (cond (!(eqI (r29.at 1).i 0)) (some (D.tup [p0,(di 13)])) (cond (eqI (p1.at 0).i 6) (cond ((leI 0 r27.i)&&(leI r27.i (ad .i64 r27.i 1))&&(leI (ad .i64 r27.i 1) (nI r28.elems.length))&&(leI (nI r28.elems.length) (nI r28.elems.length))&&(eqN (0+r28.elems.length) (r28.elems.set (0+(r27.i).toNat) (D.agg ((ix r28.elems (0+(r27.i).toNat)).parts.set 0 (r29.at 0)))).length)) (cond (eqI r27.i (ad .i64 r27.i 1)) (some (D.tup [(da [(dl r28.nn (((r28.elems.set (0+(r27.i).toNat) (D.agg ((ix r28.elems (0+(r27.i).toNat)).parts.set 0 (r29.at 0)))).drop 0).take r28.elems.length)),(p0.at 1),(p0.at 2)]),(di 0)])) (cond (true&&(leI 0 r27.i)&&(leN (0+(r27.i).toNat) (r28.elems.set (0+(r27.i).toNat) (D.agg ((ix r28.elems (0+(r27.i).toNat)).parts.set 0 (r29.at 0)))).length)) (cond ((leI 0 (ad .i64 r27.i 1))&&(leI (ad .i64 r27.i 1) (nI r28.elems.length))&&(leN (0+r28.elems.length) (r28.elems.set (0+(r27.i).toNat) (D.agg ((ix r28.elems (0+(r27.i).toNat)).parts.set 0 (r29.at 0)))).length)) (cond (leN ((0+((r27.i).toNat-0))+(((r28.elems.set (0+(r27.i).toNat) (D.agg ((ix r28.elems (0+(r27.i).toNat)).parts.set 0 (r29.at 0)))).drop (0+(ad .i64 r27.i 1).toNat)).take (r28.elems.length-(ad .i64 r27.i 1).toNat)).length) (r28.elems.set (0+(r27.i).toNat) (D.agg ((ix r28.elems (0+(r27.i).toNat)).parts.set 0 (r29.at 0)))).length) (cond ((leI 0 (nI (((r27.i).toNat-0)+(((r28.elems.set (0+(r27.i).toNat) (D.agg ((ix r28.elems (0+(r27.i).toNat)).parts.set 0 (r29.at 0)))).drop (0+(ad .i64 r27.i 1).toNat)).take (r28.elems.length-(ad .i64 r27.i 1).toNat)).length)))&&(leI (nI (((r27.i).toNat-0)+(((r28.elems.set (0+(r27.i).toNat) (D.agg ((ix r28.elems (0+(r27.i).toNat)).parts.set 0 (r29.at 0)))).drop (0+(ad .i64 r27.i 1).toNat)).take (r28.elems.length-(ad .i64 r27.i 1).toNat)).length)) (nI r28.elems.length))&&(leN (0+r28.elems.length) (ap (ap ((r28.elems.set (0+(r27.i).toNat) (D.agg ((ix r28.elems (0+(r27.i).toNat)).parts.set 0 (r29.at 0)))).take (0+((r27.i).toNat-0))) (((r28.elems.set (0+(r27.i).toNat) (D.agg ((ix r28.elems (0+(r27.i).toNat)).parts.set 0 (r29.at 0)))).drop (0+(ad .i64 r27.i 1).toNat)).take (r28.elems.length-(ad .i64 r27.i 1).toNat))) ((r28.elems.set (0+(r27.i).toNat) (D.agg ((ix r28.elems (0+(r27.i).toNat)).parts.set 0 (r29.at 0)))).drop ((0+((r27.i).toNat-0))+(((r28.elems.set (0+(r27.i).toNat) (D.agg ((ix r28.elems (0+(r27.i).toNat)).parts.set 0 (r29.at 0)))).drop (0+(ad .i64 r27.i 1).toNat)).take (r28.elems.length-(ad .i64 r27.i 1).toNat)).length))).length)) (some (D.tup [(da [(dl r28.nn (((ap (ap ((ap (ap ((r28.elems.set (0+(r27.i).toNat) (D.agg ((ix r28.elems (0+(r27.i).toNat)).parts.set 0 (r29.at 0)))).take (0+((r27.i).toNat-0))) (((r28.elems.set (0+(r27.i).toNat) (D.agg ((ix r28.elems (0+(r27.i).toNat)).parts.set 0 (r29.at 0)))).drop (0+(ad .i64 r27.i 1).toNat)).take (r28.elems.length-(ad .i64 r27.i 1).toNat))) ((r28.elems.set (0+(r27.i).toNat) (D.agg ((ix r28.elems (0+(r27.i).toNat)).parts.set 0 (r29.at 0)))).drop ((0+((r27.i).toNat-0))+(((r28.elems.set (0+(r27.i).toNat) (D.agg ((ix r28.elems (0+(r27.i).toNat)).parts.set 0 (r29.at 0)))).drop (0+(ad .i64 r27.i 1).toNat)).take (r28.elems.length-(ad .i64 r27.i 1).toNat)).length))).take (0+(((r27.i).toNat-0)+(((r28.elems.set (0+(r27.i).toNat) (D.agg ((ix r28.elems (0+(r27.i).toNat)).parts.set 0 (r29.at 0)))).drop (0+(ad .i64 r27.i 1).toNat)).take (r28.elems.length-(ad .i64 r27.i 1).toNat)).length))) (rp (r28.elems.length-(((r27.i).toNat-0)+(((r28.elems.set (0+(r27.i).toNat) (D.agg ((ix r28.elems (0+(r27.i).toNat)).parts.set 0 (r29.at 0)))).drop (0+(ad .i64 r27.i 1).toNat)).take (r28.elems.length-(ad .i64 r27.i 1).toNat)).length)) (da [(da [(di 0),(dS (bs [])),(dS (bs [])),(db false),(di 0),(dl false [])]),(di 0),(da (rp 32 (D.int .u8 0)))]))) ((ap (ap ((r28.elems.set (0+(r27.i).toNat) (D.agg ((ix r28.elems (0+(r27.i).toNat)).parts.set 0 (r29.at 0)))).take (0+((r27.i).toNat-0))) (((r28.elems.set (0+(r27.i).toNat) (D.agg ((ix r28.elems (0+(r27.i).toNat)).parts.set 0 (r29.at 0)))).drop (0+(ad .i64 r27.i 1).toNat)).take (r28.elems.length-(ad .i64 r27.i 1).toNat))) ((r28.elems.set (0+(r27.i).toNat) (D.agg ((ix r28.elems (0+(r27.i).toNat)).parts.set 0 (r29.at 0)))).drop ((0+((r27.i).toNat-0))+(((r28.elems.set (0+(r27.i).toNat) (D.agg ((ix r28.elems (0+(r27.i).toNat)).parts.set 0 (r29.at 0)))).drop (0+(ad .i64 r27.i 1).toNat)).take (r28.elems.length-(ad .i64 r27.i 1).toNat)).length))).drop ((0+(((r27.i).toNat-0)+(((r28.elems.set (0+(r27.i).toNat) (D.agg ((ix r28.elems (0+(r27.i).toNat)).parts.set 0 (r29.at 0)))).drop (0+(ad .i64 r27.i 1).toNat)).take (r28.elems.length-(ad .i64 r27.i 1).toNat)).length))+(r28.elems.length-(((r27.i).toNat-0)+(((r28.elems.set (0+(r27.i).toNat) (D.agg ((ix r28.elems (0+(r27.i).toNat)).parts.set 0 (r29.at 0)))).drop (0+(ad .i64 r27.i 1).toNat)).take (r28.elems.length-(ad .i64 r27.i 1).toNat)).length))))).drop 0).take (((r27.i).toNat-0)+(((r28.elems.set (0+(r27.i).toNat) (D.agg ((ix r28.elems (0+(r27.i).toNat)).parts.set 0 (r29.at 0)))).drop (0+(ad .i64 r27.i 1).toNat)).take (r28.elems.length-(ad .i64 r27.i 1).toNat)).length))),(p0.at 1),(p0.at 2)]),(di 0)])) none) none) none) none)) none) (some (D.tup [(da [(dl r28.nn (((r28.elems.set (0+(r27.i).toNat) (D.agg ((ix r28.elems (0+(r27.i).toNat)).parts.set 0 (r29.at 0)))).drop 0).take r28.elems.length)),(p0.at 1),(p0.at 2)]),(di 0)])))) (cond (!(eqI (r29.at 1).i 0)) (some (D.tup [p0,(di 13)])) (cond (eqI (p1.at 0).i 6) (cond ((leI 0 r27.i)&&(leI r27.i (ad .i64 r27.i 1))&&(leI (ad .i64 r27.i 1) (nI r28.elems.length))&&(leI (nI r28.elems.length) (nI r28.elems.length))&&(eqN (0+r28.elems.length) r28.elems.length)) (cond (eqI r27.i (ad .i64 r27.i 1)) (some (D.tup [(da [(dl r28.nn ((r28.elems.drop 0).take r28.elems.length)),(p0.at 1),(p0.at 2)]),(di 0)])) (cond (true&&(leI 0 r27.i)&&(leN (0+(r27.i).toNat) r28.elems.length)) (cond ((leI 0 (ad .i64 r27.i 1))&&(leI (ad .i64 r27.i 1) (nI r28.elems.length))&&(leN (0+r28.elems.length) r28.elems.length)) (cond (leN ((0+((r27.i).toNat-0))+((r28.elems.drop (0+(ad .i64 r27.i 1).toNat)).take (r28.elems.length-(ad .i64 r27.i 1).toNat)).length) r28.elems.length) (cond ((leI 0 (nI (((r27.i).toNat-0)+((r28.elems.drop (0+(ad .i64 r27.i 1).toNat)).take (r28.elems.length-(ad .i64 r27.i 1).toNat)).length)))&&(leI (nI (((r27.i).toNat-0)+((r28.elems.drop (0+(ad .i64 r27.i 1).toNat)).take (r28.elems.length-(ad .i64 r27.i 1).toNat)).length)) (nI r28.elems.length))&&(leN (0+r28.elems.length) (ap (ap (r28.elems.take (0+((r27.i).toNat-0))) ((r28.elems.drop (0+(ad .i64 r27.i 1).toNat)).take (r28.elems.length-(ad .i64 r27.i 1).toNat))) (r28.elems.drop ((0+((r27.i).toNat-0))+((r28.elems.drop (0+(ad .i64 r27.i 1).toNat)).take (r28.elems.length-(ad .i64 r27.i 1).toNat)).length))).length)) (some (D.tup [(da [(dl r28.nn (((ap (ap ((ap (ap (r28.elems.take (0+((r27.i).toNat-0))) ((r28.elems.drop (0+(ad .i64 r27.i 1).toNat)).take (r28.elems.length-(ad .i64 r27.i 1).toNat))) (r28.elems.drop ((0+((r27.i).toNat-0))+((r28.elems.drop (0+(ad .i64 r27.i 1).toNat)).take (r28.elems.length-(ad .i64 r27.i 1).toNat)).length))).take (0+(((r27.i).toNat-0)+((r28.elems.drop (0+(ad .i64 r27.i 1).toNat)).take (r28.elems.length-(ad .i64 r27.i 1).toNat)).length))) (rp (r28.elems.length-(((r27.i).toNat-0)+((r28.elems.drop (0+(ad .i64 r27.i 1).toNat)).take (r28.elems.length-(ad .i64 r27.i 1).toNat)).length)) (da [(da [(di 0),(dS (bs [])),(dS (bs [])),(db false),(di 0),(dl false [])]),(di 0),(da (rp 32 (D.int .u8 0)))]))) ((ap (ap (r28.elems.take (0+((r27.i).toNat-0))) ((r28.elems.drop (0+(ad .i64 r27.i 1).toNat)).take (r28.elems.length-(ad .i64 r27.i 1).toNat))) (r28.elems.drop ((0+((r27.i).toNat-0))+((r28.elems.drop (0+(ad .i64 r27.i 1).toNat)).take (r28.elems.length-(ad .i64 r27.i 1).toNat)).length))).drop ((0+(((r27.i).toNat-0)+((r28.elems.drop (0+(ad .i64 r27.i 1).toNat)).take (r28.elems.length-(ad .i64 r27.i 1).toNat)).length))+(r28.elems.length-(((r27.i).toNat-0)+((r28.elems.drop (0+(ad .i64 r27.i 1).toNat)).take (r28.elems.length-(ad .i64 r27.i 1).toNat)).length))))).drop 0).take (((r27.i).toNat-0)+((r28.elems.drop (0+(ad .i64 r27.i 1).toNat)).take (r28.elems.length-(ad .i64 r27.i 1).toNat)).length))),(p0.at 1),(p0.at 2)]),(di 0)])) none) none) none) none)) none) (some (D.tup [(da [(dl r28.nn ((r28.elems.drop 0).take r28.elems.length)),(p0.at 1),(p0.at 2)]),(di 0)])))))) none)))) (bd (F31.s FUEL p0 (p1.at 1).i) fun r30=>(cond (ltI r30.i 0) (some (D.tup [p0,(di 13)])) (bd (F36.s FUEL (p0.at 0)) fun r31=>(cond (inb r30.i r31.elems.length) (bd (F85.s FUEL ((ix r31.elems (0+(r30.i).toNat)).at 0) (p0.at 2).i) fun r32=>(cond (!(eqI r32.i 0)) (some (D.tup [p0,(di 13)])) (cond (eqI (p1.at 0).i 6) (cond ((leI 0 r30.i)&&(leI r30.i (ad .i64 r30.i 1))&&(leI (ad .i64 r30.i 1) (nI r31.elems.length))&&(leI (nI r31.elems.length) (nI r31.elems.length))&&(eqN (0+r31.elems.length) r31.elems.length)) (cond (eqI r30.i (ad .i64 r30.i 1)) (some (D.tup [(da [(dl r31.nn ((r31.elems.drop 0).take r31.elems.length)),(p0.at 1),(p0.at 2)]),(di 0)])) (cond (true&&(leI 0 r30.i)&&(leN (0+(r30.i).toNat) r31.elems.length)) (cond ((leI 0 (ad .i64 r30.i 1))&&(leI (ad .i64 r30.i 1) (nI r31.elems.length))&&(leN (0+r31.elems.length) r31.elems.length)) (cond (leN ((0+((r30.i).toNat-0))+((r31.elems.drop (0+(ad .i64 r30.i 1).toNat)).take (r31.elems.length-(ad .i64 r30.i 1).toNat)).length) r31.elems.length) (cond ((leI 0 (nI (((r30.i).toNat-0)+((r31.elems.drop (0+(ad .i64 r30.i 1).toNat)).take (r31.elems.length-(ad .i64 r30.i 1).toNat)).length)))&&(leI (nI (((r30.i).toNat-0)+((r31.elems.drop (0+(ad .i64 r30.i 1).toNat)).take (r31.elems.length-(ad .i64 r30.i 1).toNat)).length)) (nI r31.elems.length))&&(leN (0+r31.elems.length) (ap (ap (r31.elems.take (0+((r30.i).toNat-0))) ((r31.elems.drop (0+(ad .i64 r30.i 1).toNat)).take (r31.elems.length-(ad .i64 r30.i 1).toNat))) (r31.elems.drop ((0+((r30.i).toNat-0))+((r31.elems.drop (0+(ad .i64 r30.i 1).toNat)).take (r31.elems.length-(ad .i64 r30.i 1).toNat)).length))).length)) (some (D.tup [(da [(dl r31.nn (((ap (ap ((ap (ap (r31.elems.take (0+((r30.i).toNat-0))) ((r31.elems.drop (0+(ad .i64 r30.i 1).toNat)).take (r31.elems.length-(ad .i64 r30.i 1).toNat))) (r31.elems.drop ((0+((r30.i).toNat-0))+((r31.elems.drop (0+(ad .i64 r30.i 1).toNat)).take (r31.elems.length-(ad .i64 r30.i 1).toNat)).length))).take (0+(((r30.i).toNat-0)+((r31.elems.drop (0+(ad .i64 r30.i 1).toNat)).take (r31.elems.length-(ad .i64 r30.i 1).toNat)).length))) (rp (r31.elems.length-(((r30.i).toNat-0)+((r31.elems.drop (0+(ad .i64 r30.i 1).toNat)).take (r31.elems.length-(ad .i64 r30.i 1).toNat)).length)) (da [(da [(di 0),(dS (bs [])),(dS (bs [])),(db false),(di 0),(dl false [])]),(di 0),(da (rp 32 (D.int .u8 0)))]))) ((ap (ap (r31.elems.take (0+((r30.i).toNat-0))) ((r31.elems.drop (0+(ad .i64 r30.i 1).toNat)).take (r31.elems.length-(ad .i64 r30.i 1).toNat))) (r31.elems.drop ((0+((r30.i).toNat-0))+((r31.elems.drop (0+(ad .i64 r30.i 1).toNat)).take (r31.elems.length-(ad .i64 r30.i 1).toNat)).length))).drop ((0+(((r30.i).toNat-0)+((r31.elems.drop (0+(ad .i64 r30.i 1).toNat)).take (r31.elems.length-(ad .i64 r30.i 1).toNat)).length))+(r31.elems.length-(((r30.i).toNat-0)+((r31.elems.drop (0+(ad .i64 r30.i 1).toNat)).take (r31.elems.length-(ad .i64 r30.i 1).toNat)).length))))).drop 0).take (((r30.i).toNat-0)+((r31.elems.drop (0+(ad .i64 r30.i 1).toNat)).take (r31.elems.length-(ad .i64 r30.i 1).toNat)).length))),(p0.at 1),(p0.at 2)]),(di 0)])) none) none) none) none)) none) (some (D.tup [(da [(dl r31.nn ((r31.elems.drop 0).take r31.elems.length)),(p0.at 1),(p0.at 2)]),(di 0)]))))) none)))))))))))))
theorem run (M:Nat) (p0:D) (p1:D):callS (e M) (tblOf (t M)) 12 (.fn 16) [.d (.struct [45,3,3]) p0,.d (.struct [50,3,9,3,3,56]) p1] [] (fun v H=>finish ty [47,36] v H)=s M p0 p1:=by kernel_rfl
def c:Con:={ run:=fun ds=>match ds with | [p0,p1]=>s FUEL p0 p1 | _=>none }
theorem ok:ConOk (16,c):=mkC Tryz.f16 [(.struct [45,3,3]),(.struct [50,3,9,3,3,56])] [47,36] (by kernel_rfl) (by kernel_rfl) (by kernel_rfl) (by kernel_rfl) (allCons F31.ok (allCons F34.ok (allCons F36.ok (allCons F76.ok (allCons F79.ok (allCons F81.ok (allCons F83.ok (allCons F85.ok allNil)))))))) allNil (t_ok FUEL) fun a=>run FUEL a.1 a.2.1
end F16
namespace F20
def k0_:K:=(.struct [45,3,3])
def k1_:K:=(.struct [50,3,9,3,3,56])
def cons:List (Nat×Con):=[(16,F16.c)]
def exts:List (Nat×Ext):=[]
def h:List (Nat×Nat×Hint):=[(20,3,{ live:=[2,5,10,11,12] })]
noncomputable def e (M:Nat):Env:=env cons exts h M
structure S3 where
 (d13:D) (i14 i15:Int) (b16:Bool) (l17:List D) (i18 i19:Int) (d20:D)
inductive X3 where
 | e0 (d13:D) (i14 i15:Int) (d20 r21:D)
 | e1 (d13:D) (i14 i15:Int) (b16:Bool) (l17:List D) (i18 i19:Int) (d20:D)
def st3 (M:Nat):S3→(S3→Option D)→(X3→Option D)→Option D
 | ⟨d13,i14,i15,b16,l17,i18,i19,d20⟩,rec,K=>(cond (ltI i15 i14) (cond (inb i15 d13.elems.length) (bd (F16.s FUEL d20 (ix d13.elems i15.toNat)) fun r21=>(cond (neI (r21.at 1).i 0) (K (.e0 d13 i14 i15 d20 r21)) (rec ⟨d13,i14,(ad .i64 i15 1),b16,l17,i18,i19,(r21.at 0)⟩))) none) (K (.e1 d13 i14 i15 b16 l17 i18 i19 d20)))
def ex3 (k:Kont):X3→Option D
 | .e0 d13 i14 i15 d20 r21=>k .ret ((us 2 ((.ptr 0 [] k0_)::(vk (.int .i64) (r21.at 1))::(vi i15)::(.ptr 1 [] k0_)::(vi i15)::(.ptr 2 [] k1_)::(.ptr 3 [] k0_)::(vk (.int .i64) (r21.at 1))::(vk (.slice 58) d13)::(vi i14)::(vi i15)::(vb (ltI i15 i14))::(vi i15)::(.cptr k1_ (ix d13.elems i15.toNat))::(vk k1_ (ix d13.elems i15.toNat))::(.dtup [k0_,(.int .i64)] r21)::(vk k0_ d20)::(vk k1_ (ix d13.elems i15.toNat))::(.dtup [k0_,(.int .i64)] r21)::(vk k0_ (r21.at 0))::(vk (.int .i64) (r21.at 1))::(vk (.int .i64) (r21.at 1))::(vb (neI (r21.at 1).i 0))::(vk k0_ d20)::(vk (.int .i64) (r21.at 1))::(vi i15)::(us 3 [])))) [(.var k0_ (vk k0_ d20)),(.var k0_ (vk k0_ d20)),(.var k1_ (vk k1_ (ix d13.elems i15.toNat))),(.var k0_ (vk k0_ (r21.at 0)))]
 | .e1 d13 i14 i15 b16 l17 i18 i19 d20=>k (.exit 0) ((us 2 ((.ptr 0 [] k0_)::(us 2 ((.ptr 1 [] k0_)::(us 4 ((vk (.slice 58) d13)::(vi i14)::(vi i15)::(vb (ltI i15 i14))::(us 17 [])))))))) [(.var k0_ (vk k0_ (da [(dl b16 l17),(di i18),(di i19)]))),(.var k0_ (vk k0_ d20))]
def lv3:S3→List Leaf
 | ⟨d13,i14,i15,b16,l17,i18,i19,d20⟩=>[.d d13,.i i14,.i i15,.b b16,.l l17,.i i18,.i i19,.d d20]
def of3:List Leaf→Option S3
 | [.d d13,.i i14,.i i15,.b b16,.l l17,.i i18,.i i19,.d d20]=>some ⟨d13,i14,i15,b16,l17,i18,i19,d20⟩
 | _=>none
def ps3:List PV:=((up 2 ((.ptr 0 [] k0_)::(up 2 ((.ptr 1 [] k0_)::(up 4 ((.d (.slice 58) .x)::(.d (.int .i64) (.int .i64))::(.d (.int .i64) (.int .i64))::(up 18 []))))))))
def qs3:List PO:=[(.var k0_ (.d k0_ (.agg [.slice,(.int .i64),(.int .i64)]))),(.var k0_ (.d k0_ .x))]
noncomputable def t (M:Nat):List Ent:=⟨20,11,0,3,sumS [2,5,10,11,12] ps3 qs3 [] of3 (st3 M) ex3 M⟩::[]
theorem t_ok (M:Nat):AllOk (e M) (tblOf (t M)):=AllOk.addS (n0:=2) (lv:=lv3) AllOk.nil (by kernel_rfl) rfl (by intro ls s h;unfold of3 at h;(repeat' split at h)<;>simp at h;subst h;rfl) (by intro s;kernel_rfl) (by intro s;kernel_rfl) (by intro s nx k;kernel_rfl)
def s (M:Nat) (p0:D):Option D:=
 (goS (st3 M) M ⟨p0,(nI p0.elems.length),0,false,[],0,0,(da [(dl false []),(di 0),(di 0)])⟩ fun x=>match x with | .e0 d13 i14 i15 d20 r21=>(some (D.tup [d20,(r21.at 1),(di i15)])) | .e1 d13 i14 i15 b16 l17 i18 i19 d20=>(some (D.tup [d20,(di 0),(di 0)])))
theorem run (M:Nat) (p0:D):callS (e M) (tblOf (t M)) 12 (.fn 20) [.d (.slice 58) p0] [] (fun v H=>finish ty [47,36,3] v H)=s M p0:=by kernel_rfl
def c:Con:={ run:=fun ds=>match ds with | [p0]=>s FUEL p0 | _=>none }
theorem ok:ConOk (20,c):=mkC Tryz.f20 [(.slice 58)] [47,36,3] (by kernel_rfl) (by kernel_rfl) (by kernel_rfl) (by kernel_rfl) (allCons F16.ok allNil) allNil (t_ok FUEL) fun a=>run FUEL a.1
end F20
namespace F86
def cons:List (Nat×Con):=[]
def exts:List (Nat×Ext):=[]
def h:List (Nat×Nat×Hint):=[(86,4,{ live:=[0,1,12,13] })]
noncomputable def e (M:Nat):Env:=env cons exts h M
structure S4 where
 (d1 d2:D) (i3 i4:Int)
inductive X4 where
 | e0 (d1 d2:D) (i3 i4:Int)
 | e1 (d1 d2:D) (i3 i4:Int)
def st4 (M:Nat):S4→(S4→Option D)→(X4→Option D)→Option D
 | ⟨d1,d2,i3,i4⟩,rec,K=>(cond (ltI i4 i3) (cond (inb i4 d1.elems.length) (cond (inb i4 d2.elems.length) (cond (!(eqS (ix d1.elems i4.toNat).s (ix d2.elems i4.toNat).s)) (K (.e0 d1 d2 i3 i4)) (rec ⟨d1,d2,i3,(ad .i64 i4 1)⟩)) none) none) (K (.e1 d1 d2 i3 i4)))
def ex4 (k:Kont):X4→Option D
 | .e0 d1 d2 i3 i4=>k .ret ((vk (.slice 9) d1)::(vk (.slice 9) d2)::(us 2 ((vb false)::(vi i4)::(us 6 ((vi i3)::(vi i4)::(vb (ltI i4 i3))::(vi i4)::(vk (.slice 9) d1)::(vi i4)::(.cptr .str (ix d1.elems i4.toNat))::(vk .str (ix d1.elems i4.toNat))::(vk (.slice 9) d2)::(vi i4)::(.cptr .str (ix d2.elems i4.toNat))::(vk .str (ix d2.elems i4.toNat))::(vb (!(eqS (ix d1.elems i4.toNat).s (ix d2.elems i4.toNat).s)))::(us 1 [])))))) []
 | .e1 d1 d2 i3 i4=>k (.exit 0) ((vk (.slice 9) d1)::(vk (.slice 9) d2)::(us 10 ((vi i3)::(vi i4)::(vb (ltI i4 i3))::(us 11 [])))) []
def lv4:S4→List Leaf
 | ⟨d1,d2,i3,i4⟩=>[.d d1,.d d2,.i i3,.i i4]
def of4:List Leaf→Option S4
 | [.d d1,.d d2,.i i3,.i i4]=>some ⟨d1,d2,i3,i4⟩
 | _=>none
def ps4:List PV:=((.d (.slice 9) .x)::(.d (.slice 9) .x)::(up 10 ((.d (.int .i64) (.int .i64))::(.d (.int .i64) (.int .i64))::(up 12 []))))
def qs4:List PO:=[]
noncomputable def t (M:Nat):List Ent:=⟨86,11,0,4,sumS [0,1,12,13] ps4 qs4 [] of4 (st4 M) ex4 M⟩::[]
theorem t_ok (M:Nat):AllOk (e M) (tblOf (t M)):=AllOk.addS (n0:=0) (lv:=lv4) AllOk.nil (by kernel_rfl) rfl (by intro ls s h;unfold of4 at h;(repeat' split at h)<;>simp at h;subst h;rfl) (by intro s;kernel_rfl) (by intro s;kernel_rfl) (by intro s nx k;kernel_rfl)
def s (M:Nat) (p0:D) (p1:D):Option D:=
 (cond (neI (nI p0.elems.length) (nI p1.elems.length)) (some (db false)) (goS (st4 M) M ⟨p0,p1,(nI p0.elems.length),0⟩ fun x=>match x with | .e0 d1 d2 i3 i4=>(some (db false)) | .e1 d1 d2 i3 i4=>(some (db true))))
theorem run (M:Nat) (p0:D) (p1:D):callS (e M) (tblOf (t M)) 12 (.fn 86) [.d (.slice 9) p0,.d (.slice 9) p1] [] (fun v H=>finish ty [4] v H)=s M p0 p1:=by kernel_rfl
def c:Con:={ run:=fun ds=>match ds with | [p0,p1]=>s FUEL p0 p1 | _=>none,plain:=true }
theorem ok:ConOk (86,c):=mkC Tryz.f86 [(.slice 9),(.slice 9)] [4] (by kernel_rfl) (by kernel_rfl) (by kernel_rfl) (by kernel_rfl) allNil allNil (t_ok FUEL) fun a=>run FUEL a.1 a.2.1
end F86
namespace F40
def cons:List (Nat×Con):=[(86,F86.c)]
def exts:List (Nat×Ext):=[]
def h:List (Nat×Nat×Hint):=[]
noncomputable def e (M:Nat):Env:=env cons exts h M
def s (M:Nat) (p0:D) (p1:D):Option D:=
 (cond (eqI (p0.at 0).i (p1.at 0).i) (cond (eqS (p0.at 1).s (p1.at 1).s) (cond (eqS (p0.at 2).s (p1.at 2).s) (bd (match D.eqv ty eqDepth (p0.at 3) (p1.at 3) .bool with | some z=>some (.bool z) | none=>none) fun r1=>(cond r1.b (cond (eqI (p0.at 4).i (p1.at 4).i) (bd (F86.s FUEL (p0.at 5) (p1.at 5)) fun r2=>(some r2)) (some (db false))) (some (db false)))) (some (db false))) (some (db false))) (some (db false)))
theorem run (M:Nat) (p0:D) (p1:D):callS (e M) (tblOf []) 12 (.fn 40) [.d (.struct [3,9,9,4,3,37]) p0,.d (.struct [3,9,9,4,3,37]) p1] [] (fun v H=>finish ty [4] v H)=s M p0 p1:=by kernel_rfl
def c:Con:={ run:=fun ds=>match ds with | [p0,p1]=>s FUEL p0 p1 | _=>none,plain:=true }
theorem ok:ConOk (40,c):=mkC Tryz.f40 [(.struct [3,9,9,4,3,37]),(.struct [3,9,9,4,3,37])] [4] (by kernel_rfl) (by kernel_rfl) (by kernel_rfl) (by kernel_rfl) (allCons F86.ok allNil) allNil AllOk.nil fun a=>run FUEL a.1 a.2.1
end F40
namespace F39
def cons:List (Nat×Con):=[(40,F40.c)]
def exts:List (Nat×Ext):=[]
def h:List (Nat×Nat×Hint):=[]
noncomputable def e (M:Nat):Env:=env cons exts h M
def s (M:Nat) (p0:D) (p1:D):Option D:=
 (cond (eqI (p0.at 1).i (p1.at 1).i) (bd (match D.eqv ty eqDepth (p0.at 2) (p1.at 2) (.array 32 5) with | some z=>some (.bool z) | none=>none) fun r1=>(cond r1.b (bd (F40.s FUEL (p0.at 0) (p1.at 0)) fun r2=>(some r2)) (some (db false)))) (some (db false)))
theorem run (M:Nat) (p0:D) (p1:D):callS (e M) (tblOf []) 12 (.fn 39) [.d (.struct [39,3,56]) p0,.d (.struct [39,3,56]) p1] [] (fun v H=>finish ty [4] v H)=s M p0 p1:=by kernel_rfl
def c:Con:={ run:=fun ds=>match ds with | [p0,p1]=>s FUEL p0 p1 | _=>none,plain:=true }
theorem ok:ConOk (39,c):=mkC Tryz.f39 [(.struct [39,3,56]),(.struct [39,3,56])] [4] (by kernel_rfl) (by kernel_rfl) (by kernel_rfl) (by kernel_rfl) (allCons F40.ok allNil) allNil AllOk.nil fun a=>run FUEL a.1 a.2.1
end F39
namespace F17
def k0_:K:=(.struct [39,3,56])
def k1_:K:=(.struct [45,3,3])
def cons:List (Nat×Con):=[(39,F39.c)]
def exts:List (Nat×Ext):=[]
def h:List (Nat×Nat×Hint):=[(38,4,{ live:=[1,2,15,16,17] })]
def q0_:PO:=(.var k1_ (.d k1_ .x))
noncomputable def e (M:Nat):Env:=env cons exts h M
structure S38_4 where
 (d1 d2:D) (i3 i4:Int) (d5 d6:D)
inductive X38_4 where
 | e0 (d1 d2:D) (i3 i4:Int) (d5 d6 r7:D)
 | e1 (d1 d2:D) (i3 i4:Int) (d5 d6:D)
def st38_4 (M:Nat):S38_4→(S38_4→Option D)→(X38_4→Option D)→Option D
 | ⟨d1,d2,i3,i4,d5,d6⟩,rec,K=>(cond (ltI i4 i3) (cond (inb i4 d2.elems.length) (cond (inb i4 d1.elems.length) (bd (F39.s FUEL (ix d2.elems i4.toNat) (ix d1.elems i4.toNat)) fun r7=>(cond (!r7.b) (K (.e0 d1 d2 i3 i4 d5 d6 r7)) (rec ⟨d1,d2,i3,(ad .i64 i4 1),d5,d6⟩))) none) none) (K (.e1 d1 d2 i3 i4 d5 d6)))
def ex38_4 (k:Kont):X38_4→Option D
 | .e0 d1 d2 i3 i4 d5 d6 r7=>k .ret ((us 1 ((vk (.slice 81) d1)::(vk .func (D.fn 39))::(us 3 ((vb false)::(vi i4)::(.ptr 2 [] k0_)::(.ptr 3 [] k0_)::(us 5 ((vk (.slice 81) d2)::(vi i3)::(vi i4)::(vb (ltI i4 i3))::(vi i4)::(.cptr k0_ (ix d2.elems i4.toNat))::(vk k0_ (ix d2.elems i4.toNat))::(vk (.slice 81) d1)::(vi i4)::(.cptr k0_ (ix d1.elems i4.toNat))::(vk k0_ (ix d1.elems i4.toNat))::(vk .func (D.fn 39))::(vk k0_ (ix d2.elems i4.toNat))::(vk k0_ (ix d1.elems i4.toNat))::(vk .bool r7)::(vb (!r7.b))::(us 1 [])))))))) [(.var k1_ (vk k1_ d5)),(.var k1_ (vk k1_ d6)),(.var k0_ (vk k0_ (ix d2.elems i4.toNat))),(.var k0_ (vk k0_ (ix d1.elems i4.toNat)))]
 | .e1 d1 d2 i3 i4 d5 d6=>k (.exit 0) ((us 1 ((vk (.slice 81) d1)::(vk .func (D.fn 39))::(us 12 ((vk (.slice 81) d2)::(vi i3)::(vi i4)::(vb (ltI i4 i3))::(us 13 [])))))) [(.var k1_ (vk k1_ d5)),(.var k1_ (vk k1_ d6))]
def lv38_4:S38_4→List Leaf
 | ⟨d1,d2,i3,i4,d5,d6⟩=>[.d d1,.d d2,.i i3,.i i4,.d d5,.d d6]
def of38_4:List Leaf→Option S38_4
 | [.d d1,.d d2,.i i3,.i i4,.d d5,.d d6]=>some ⟨d1,d2,i3,i4,d5,d6⟩
 | _=>none
def ps38_4:List PV:=((up 1 ((.d (.slice 81) .x)::(.d .func (.fn 39))::(up 12 ((.d (.slice 81) .x)::(.d (.int .i64) (.int .i64))::(.d (.int .i64) (.int .i64))::(up 14 []))))))
def qs38_4:List PO:=[q0_,q0_]
noncomputable def t (M:Nat):List Ent:=⟨38,10,2,4,sumS [1,2,15,16,17] ps38_4 qs38_4 [] of38_4 (st38_4 M) ex38_4 M⟩::[]
theorem t_ok (M:Nat):AllOk (e M) (tblOf (t M)):=AllOk.addS (n0:=2) (lv:=lv38_4) AllOk.nil (by kernel_rfl) rfl (by intro ls s h;unfold of38_4 at h;(repeat' split at h)<;>simp at h;subst h;rfl) (by intro s;kernel_rfl) (by intro s;kernel_rfl) (by intro s nx k;kernel_rfl)
def s (M:Nat) (p0:D) (p1:D):Option D:=
 (cond (eqI (p0.at 1).i (p1.at 1).i) (cond (eqI (p0.at 2).i (p1.at 2).i) (cond (neI (nI (p0.at 0).elems.length) (nI (p1.at 0).elems.length)) (some (db false)) (goS (st38_4 M) M ⟨(p1.at 0),(p0.at 0),(nI (p0.at 0).elems.length),0,p0,p1⟩ fun x=>match x with | .e0 d1 d2 i3 i4 d5 d6 r7=>(some (db false)) | .e1 d1 d2 i3 i4 d5 d6=>(some (db true)))) (some (db false))) (some (db false)))
theorem run (M:Nat) (p0:D) (p1:D):callS (e M) (tblOf (t M)) 12 (.fn 17) [.d (.struct [45,3,3]) p0,.d (.struct [45,3,3]) p1] [] (fun v H=>finish ty [4] v H)=s M p0 p1:=by kernel_rfl
def c:Con:={ run:=fun ds=>match ds with | [p0,p1]=>s FUEL p0 p1 | _=>none,plain:=true }
theorem ok:ConOk (17,c):=mkC Tryz.f17 [(.struct [45,3,3]),(.struct [45,3,3])] [4] (by kernel_rfl) (by kernel_rfl) (by kernel_rfl) (by kernel_rfl) (allCons F39.ok allNil) allNil (t_ok FUEL) fun a=>run FUEL a.1 a.2.1
end F17
namespace F14
def cons:List (Nat×Con):=[(16,F16.c),(17,F17.c),(20,F20.c),(31,F31.c)]
def exts:List (Nat×Ext):=[]
def h:List (Nat×Nat×Hint):=[]
noncomputable def e (M:Nat):Env:=env cons exts h M
def s (M:Nat)  : Option D:=
 (bd (F20.s FUEL (dl true [(da [(di 0),(di 1),(dS (bs [97])),(di 0),(di 0),(da (rp 32 (D.int .u8 0)))]),(da [(di 1),(di 1),(dS (bs [])),(di 0),(di 3),(da (rp 32 (D.int .u8 0)))])])) fun r1=>(cond (neI (r1.at 1).i 0) (some (db false)) (cond (neI (nI ((r1.at 0).at 0).elems.length) 1) (some (db false)) (bd (F20.s FUEL (dl true [(da [(di 0),(di 1),(dS (bs [97])),(di 0),(di 0),(da (rp 32 (D.int .u8 0)))]),(da [(di 0),(di 1),(dS (bs [97])),(di 0),(di 0),(da (rp 32 (D.int .u8 0)))])])) fun r2=>(bd (F16.s FUEL (r1.at 0) (da [(di 7),(di 0),(dS (bs [])),(di 4),(di 0),(da (rp 32 (D.int .u8 0)))])) fun r3=>(cond (inb 0 ((r1.at 0).at 0).elems.length) (cond (eqI ((ix ((r1.at 0).at 0).elems 0).at 1).i 3) (cond (eqI ((r1.at 0).at 1).i 1) (cond (eqI (r2.at 1).i 13) (cond (eqI (r2.at 2).i 1) (cond (eqI (r3.at 1).i 0) (cond (eqI ((r3.at 0).at 2).i 4) (bd (F31.s FUEL (r1.at 0) 1) fun r4=>(cond (eqI r4.i 0) (bd (F31.s FUEL (r1.at 0) 2) fun r5=>(cond (eqI r5.i (-1)) (bd (F17.s FUEL (r1.at 0) (r1.at 0)) fun r6=>(cond r6.b (bd (F17.s FUEL (r1.at 0) (r3.at 0)) fun r7=>(some (db (!r7.b)))) (some (db false)))) (some (db false)))) (some (db false)))) (some (db false))) (some (db false))) (some (db false))) (some (db false))) (some (db false))) (some (db false))) none))))))
theorem run (M:Nat)  : callS (e M) (tblOf []) 12 (.fn 14) [] [] (fun v H=>finish ty [4] v H)=s M  := by kernel_rfl
def c:Con:={ run:=fun ds=>match ds with | []=>s FUEL  | _=>none,plain:=true }
theorem ok:ConOk (14,c):=mkC Tryz.f14 [] [4] (by kernel_rfl) (by kernel_rfl) (by kernel_rfl) (by kernel_rfl) (allCons F16.ok (allCons F17.ok (allCons F20.ok (allCons F31.ok allNil)))) allNil AllOk.nil fun _=>run FUEL
end F14
namespace F7
def cons:List (Nat×Con):=[]
def exts:List (Nat×Ext):=[]
def h:List (Nat×Nat×Hint):=[(7,2,{ live:=[0,3] })]
noncomputable def e (M:Nat):Env:=env cons exts h M
structure S2 where
 (d1:D) (i2:Int)
inductive X2 where
 | e0 (d1:D) (i2:Int)
 | e1 (d1:D) (i2:Int)
 | e2 (d1:D) (i2:Int)
 | e3 (d1:D) (i2:Int)
def st2 (M:Nat):S2→(S2→Option D)→(X2→Option D)→Option D
 | ⟨d1,i2⟩,rec,K=>(cond (ltI i2 (nI d1.elems.length)) (cond (leI i2 30) (cond (inb i2 d1.elems.length) (cond (gtI (nI ((ix d1.elems i2.toNat).at 2).s.size) 700) (K (.e0 d1 i2)) (cond (inb i2 d1.elems.length) (cond (gtI (nI ((ix d1.elems i2.toNat).at 1).s.size) 200) (K (.e1 d1 i2)) (rec ⟨d1,(ad .i64 i2 1)⟩)) none)) none) (K (.e2 d1 i2))) (K (.e3 d1 i2)))
def ex2 (k:Kont):X2→Option D
 | .e0 d1 i2=>k .ret ((vk (.slice 52) d1)::(us 1 ((vb false)::(vi i2)::(vi i2)::(vk (.slice 52) d1)::(vi (nI d1.elems.length))::(vb (ltI i2 (nI d1.elems.length)))::(vb true)::(vi i2)::(vb (leI i2 30))::(vb (leI i2 30))::(us 2 ((vk (.slice 52) d1)::(vi i2)::(.cptr (.struct [50,9,9,3,3,3]) (ix d1.elems i2.toNat))::(.cptr .str ((ix d1.elems i2.toNat).at 2))::(vk .str ((ix d1.elems i2.toNat).at 2))::(vi (nI ((ix d1.elems i2.toNat).at 2).s.size))::(vb (gtI (nI ((ix d1.elems i2.toNat).at 2).s.size) 700))::(vb true)::v0::v0::v0::v0::v0::v0::v0::(vb true)::(us 3 [])))))) []
 | .e1 d1 i2=>k .ret ((vk (.slice 52) d1)::(us 1 ((vb false)::(vi i2)::(vi i2)::(vk (.slice 52) d1)::(vi (nI d1.elems.length))::(vb (ltI i2 (nI d1.elems.length)))::(vb true)::(vi i2)::(vb (leI i2 30))::(vb (leI i2 30))::(us 2 ((vk (.slice 52) d1)::(vi i2)::(.cptr (.struct [50,9,9,3,3,3]) (ix d1.elems i2.toNat))::(.cptr .str ((ix d1.elems i2.toNat).at 2))::(vk .str ((ix d1.elems i2.toNat).at 2))::(vi (nI ((ix d1.elems i2.toNat).at 2).s.size))::(vb (gtI (nI ((ix d1.elems i2.toNat).at 2).s.size) 700))::(vb false)::(vk (.slice 52) d1)::(vi i2)::(.cptr (.struct [50,9,9,3,3,3]) (ix d1.elems i2.toNat))::(.cptr .str ((ix d1.elems i2.toNat).at 1))::(vk .str ((ix d1.elems i2.toNat).at 1))::(vi (nI ((ix d1.elems i2.toNat).at 1).s.size))::(vb (gtI (nI ((ix d1.elems i2.toNat).at 1).s.size) 200))::(vb (gtI (nI ((ix d1.elems i2.toNat).at 1).s.size) 200))::(us 3 [])))))) []
 | .e2 d1 i2=>k (.exit 0) ((vk (.slice 52) d1)::(us 2 ((vi i2)::(vi i2)::(vk (.slice 52) d1)::(vi (nI d1.elems.length))::(vb (ltI i2 (nI d1.elems.length)))::(vb true)::(vi i2)::(vb (leI i2 30))::(vb (leI i2 30))::(us 21 [])))) []
 | .e3 d1 i2=>k (.exit 0) ((vk (.slice 52) d1)::(us 2 ((vi i2)::(vi i2)::(vk (.slice 52) d1)::(vi (nI d1.elems.length))::(vb (ltI i2 (nI d1.elems.length)))::(vb false)::v0::v0::(vb false)::(us 21 [])))) []
def lv2:S2→List Leaf
 | ⟨d1,i2⟩=>[.d d1,.i i2]
def of2:List Leaf→Option S2
 | [.d d1,.i i2]=>some ⟨d1,i2⟩
 | _=>none
def ps2:List PV:=((.d (.slice 52) .x)::(up 2 ((.d (.int .i64) (.int .i64))::(up 29 []))))
def qs2:List PO:=[]
noncomputable def t (M:Nat):List Ent:=⟨7,11,0,2,sumS [0,3] ps2 qs2 [] of2 (st2 M) ex2 M⟩::[]
theorem t_ok (M:Nat):AllOk (e M) (tblOf (t M)):=AllOk.addS (n0:=0) (lv:=lv2) AllOk.nil (by kernel_rfl) rfl (by intro ls s h;unfold of2 at h;(repeat' split at h)<;>simp at h;subst h;rfl) (by intro s;kernel_rfl) (by intro s;kernel_rfl) (by intro s nx k;kernel_rfl)
def s (M:Nat) (p0:D):Option D:=
 (goS (st2 M) M ⟨p0,0⟩ fun x=>match x with | .e0 d1 i2=>(some (db false)) | .e1 d1 i2=>(some (db false)) | .e2 d1 i2=>(some (db (leI (nI d1.elems.length) 30))) | .e3 d1 i2=>(some (db (leI (nI d1.elems.length) 30))))
theorem run (M:Nat) (p0:D):callS (e M) (tblOf (t M)) 12 (.fn 7) [.d (.slice 52) p0] [] (fun v H=>finish ty [4] v H)=s M p0:=by kernel_rfl
def c:Con:={ run:=fun ds=>match ds with | [p0]=>s FUEL p0 | _=>none,plain:=true }
theorem ok:ConOk (7,c):=mkC Tryz.f7 [(.slice 52)] [4] (by kernel_rfl) (by kernel_rfl) (by kernel_rfl) (by kernel_rfl) allNil allNil (t_ok FUEL) fun a=>run FUEL a.1
end F7
end Go.AM.SZ
