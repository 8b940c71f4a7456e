/- Part 9 of the proof: the abstract machine, what the functions compute, and plain laws over that. -/
import Derived.Test.YtmbnifmpbafcjaaGreatDoorIb8
set_option linter.all false
set_option linter.unusedSimpArgs false
set_option linter.unusedVariables false
set_option linter.unusedSectionVars false
namespace Go.AM.SY
open Go Go.AM Go.Proofs Go.RowKit
namespace F17
def k0_:K:=(.struct [111,108])
def k1_:K:=(.struct [22,3,3])
def k2_:K:=(.struct [28,3,9,3,3,30])
def k3_:K:=(.struct [3,9,9,4,3,66])
def cons:List (Nat×Con):=[(52,F52.c),(53,F53.c),(55,F55.c),(57,F57.c),(60,F60.c)]
def exts:List (Nat×Ext):=[(62,stringX (.struct [111,108])),(109,copyCheckX (.struct [111,108]) 5)]
def h:List (Nat×Nat×Hint):=[(17,6,{ live:=[1,2,3,6,7,9,40,41,42],rows:=[(1056769,5)],out:=some [1,2,3,6,7,9] }),(17,14,{ perm:=[0,2,1,3,4,5] }),(17,16,{ live:=[2,6,7,14,70,71,72],rows:=[(1048586,19922993)],out:=some [6,7,14] }),(17,20,{ live:=[14] }),(61,3,{ live:=[2] }),(78,2,{ live:=[0,1,7,8],out:=some [4] }),(110,1,{ live:=[0,1,2,3,4,6],rows:=[(1048583,49),(1048591,18874417),(1048586,27263025)],out:=some [] })]
def o0_:AObj:=(.loop .ready 17 20 (.tup ((us 14 ((.ptr 10 [] (.slice 49))::(us 80 []))))))
def o1_:AObj:=(.loop .ready 61 3 (.tup ((us 2 ((.ptr 15 [] (.slice 49))::(us 10 []))))))
def o2_:AObj:=(.loop .ready 61 3 (.tup ((us 2 ((.ptr 7 [] (.slice 49))::(us 10 []))))))
def q0_:PO:=(.var k0_ (.agg k0_ [(.ptr 1 [] k0_),(.sref 2)]))
def q1_:PO:=(.var k0_ (.agg k0_ [(.d (.ptr 113) .nilPtr),(.sref 2)]))
def q2_:PO:=(.loop false 17 20 (.tup ((up 14 ((.ptr 10 [] (.slice 49))::(up 80 []))))))
def q3_:PO:=(.loop false 61 3 (.tup ((up 2 ((.ptr 15 [] (.slice 49))::(up 10 []))))))
def q4_:PO:=(.loop false 61 3 (.tup ((up 2 ((.ptr 7 [] (.slice 49))::(up 10 []))))))
def q5_:PO:=(.var k3_ (.d k3_ .x))
def q6_:PO:=(.var k1_ (.d k1_ .x))
def q7_:PO:=(.var (.int .i64) (.d (.int .i64) (.int .i64)))
noncomputable def e (M:Nat):Env:=env cons exts h M
structure S78_2 where
 (d2:D) (i3 i4:Int) (d5:D)
inductive X78_2 where
 | e0 (i4:Int) (d5:D)
 | e1 (d5:D)
def st78_2 (M:Nat):S78_2→(S78_2→Option D)→(X78_2→Option D)→Option D
 | ⟨d2,i3,i4,d5⟩,rec,K=>(cond (ltI i4 i3) (cond (inb i4 d2.elems.length) (bd (F52.s FUEL (ix d2.elems i4.toNat)) fun r6=>(cond r6.b (K (.e0 i4 d5)) (rec ⟨d2,i3,(ad .i64 i4 1),d5⟩))) none) (K (.e1 d5)))
def ex78_2 (k:Kont):X78_2→Option D
 | .e0 i4 d5=>k .ret ((us 4 ((vi i4)::(us 14 [])))) [(.var k1_ (vk k1_ d5))]
 | .e1 d5=>k (.exit 0) ((us 19 [])) [(.var k1_ (vk k1_ d5))]
def lv78_2:S78_2→List Leaf
 | ⟨d2,i3,i4,d5⟩=>[.d d2,.i i3,.i i4,.d d5]
def of78_2:List Leaf→Option S78_2
 | [.d d2,.i i3,.i i4,.d d5]=>some ⟨d2,i3,i4,d5⟩
 | _=>none
def ps78_2:List PV:=((.d (.slice 68) .x)::(.d .func (.fn 52))::(up 5 ((.d (.int .i64) (.int .i64))::(.d (.int .i64) (.int .i64))::(up 10 []))))
def qs78_2:List PO:=[q6_]
noncomputable def t1 (M:Nat):List Ent:=⟨78,9,1,2,sumS [0,1,7,8] ps78_2 qs78_2 [] of78_2 (st78_2 M) ex78_2 M⟩::[]
theorem t1_ok (M:Nat):AllOk (e M) (tblOf (t1 M)):=AllOk.addS (n0:=1) (lv:=lv78_2) AllOk.nil (by kernel_rfl) rfl (by intro ls s h;unfold of78_2 at h;(repeat' split at h)<;>simp at h;subst h;rfl) (by intro s;kernel_rfl) (by intro s;kernel_rfl) (by intro s nx k;kernel_rfl)
inductive S6 where
 | s0 (d22:D) (i23:Int) (b24:Bool) (l25:List D) (b26:Bool) (d27:D) (i28 i29:Int) (d30:D) (n31 n32:Nat) (b33:Bool) (l34:List D)
 | s1 (d35:D) (i36:Int) (b37:Bool) (l38:List D) (b39:Bool) (d40:D) (i41 i42:Int) (d43:D) (n44 n45:Nat) (b46:Bool) (l47:List D)
inductive X6 where
 | e0 (d22:D) (i23:Int) (d27:D) (i29:Int) (d30:D) (n31 n32:Nat) (b33:Bool) (l34:List D)
 | e1 (d22:D) (i23:Int) (b24:Bool) (l25:List D) (b26:Bool) (d30:D) (n31 n32:Nat) (b33:Bool) (l34:List D)
 | e2 (d35:D) (i36:Int) (d40:D) (i42:Int) (d43:D) (n44 n45:Nat) (b46:Bool) (l47:List D)
 | e3 (d35:D) (i36:Int) (b37:Bool) (l38:List D) (b39:Bool) (d43:D) (n44 n45:Nat) (b46:Bool) (l47:List D)
def st6 (M:Nat):S6→(S6→Option D)→(X6→Option D)→Option D
 | .s0 d22 i23 b24 l25 b26 d27 i28 i29 d30 n31 n32 b33 l34,rec,K=>(cond (ltI i29 i28) (cond (inb i29 d27.elems.length) (bd (F55.s FUEL (ix d27.elems i29.toNat)) fun r48=>(cond (!(r48.at 1).b) (K (.e0 d22 i23 d27 i29 d30 n31 n32 b33 l34)) (bd (F57.s FUEL (r48.at 0).s) fun r49=>(cond (mx (n32+(bytesOf r49.s).length)) (rec (.s1 d22 i23 b24 l25 b26 d27 i28 (ad .i64 i29 1) d30 0 (n32+(bytesOf r49.s).length) (b33||(!(bytesOf r49.s).isEmpty)) (ap ((l34.drop n31).take n32) (bytesOf r49.s)))) none)))) none) (K (.e1 d22 i23 b24 l25 b26 d30 n31 n32 b33 l34)))
 | .s1 d35 i36 b37 l38 b39 d40 i41 i42 d43 n44 n45 b46 l47,rec,K=>(cond (ltI i42 i41) (cond (inb i42 d40.elems.length) (bd (F55.s FUEL (ix d40.elems i42.toNat)) fun r50=>(cond (!(r50.at 1).b) (K (.e2 d35 i36 d40 i42 d43 n44 n45 b46 l47)) (bd (F57.s FUEL (r50.at 0).s) fun r51=>(cond (mx (n45+(bytesOf r51.s).length)) (rec (.s1 d35 i36 b37 l38 b39 d40 i41 (ad .i64 i42 1) d43 0 (n45+(bytesOf r51.s).length) (b46||(!(bytesOf r51.s).isEmpty)) (ap ((l47.drop n44).take n45) (bytesOf r51.s)))) none)))) none) (K (.e3 d35 i36 b37 l38 b39 d43 n44 n45 b46 l47)))
def ex6 (k:Kont):X6→Option D
 | .e0 d22 i23 d27 i29 d30 n31 n32 b33 l34=>k .ret ((us 1 ((vk (.slice 32) d22)::(vi i23)::(.ptr 0 [] k1_)::(us 2 ((vk (.slice 49) (dl false []))::(vb false)::(us 1 ((.ptr 1 [] k0_)::(us 85 [])))))))) [(.var k1_ (vk k1_ d30)),(.var k0_ (.agg k0_ [(vk (.ptr 113) D.nilPtr),(.sref 2 n31 n32)])),(.row 5 true b33 l34),(.var k2_ (vk k2_ (ix d27.elems i29.toNat)))]
 | .e1 d22 i23 b24 l25 b26 d30 n31 n32 b33 l34=>k (.exit 0) ((us 1 ((vk (.slice 32) d22)::(vi i23)::(.ptr 0 [] k1_)::(us 2 ((vk (.slice 49) (dl b24 l25))::(vb b26)::(us 1 ((.ptr 1 [] k0_)::(us 85 [])))))))) [(.var k1_ (vk k1_ d30)),(.var k0_ (.agg k0_ [(vk (.ptr 113) D.nilPtr),(.sref 2 n31 n32)])),(.row 5 true b33 l34)]
 | .e2 d35 i36 d40 i42 d43 n44 n45 b46 l47=>k .ret ((us 1 ((vk (.slice 32) d35)::(vi i36)::(.ptr 0 [] k1_)::(us 2 ((vk (.slice 49) (dl false []))::(vb false)::(us 1 ((.ptr 1 [] k0_)::(us 85 [])))))))) [(.var k1_ (vk k1_ d43)),(.var k0_ (.agg k0_ [(.ptr 1 [] k0_),(.sref 2 n44 n45)])),(.row 5 true b46 l47),(.var k2_ (vk k2_ (ix d40.elems i42.toNat)))]
 | .e3 d35 i36 b37 l38 b39 d43 n44 n45 b46 l47=>k (.exit 0) ((us 1 ((vk (.slice 32) d35)::(vi i36)::(.ptr 0 [] k1_)::(us 2 ((vk (.slice 49) (dl b37 l38))::(vb b39)::(us 1 ((.ptr 1 [] k0_)::(us 85 [])))))))) [(.var k1_ (vk k1_ d43)),(.var k0_ (.agg k0_ [(.ptr 1 [] k0_),(.sref 2 n44 n45)])),(.row 5 true b46 l47)]
def of6_0:List Leaf→Option S6
 | [.d d22,.i i23,.b b24,.l l25,.b b26,.d d27,.i i28,.i i29,.d d30,.n n31,.n n32,.b b33,.l l34]=>some (.s0 d22 i23 b24 l25 b26 d27 i28 i29 d30 n31 n32 b33 l34)
 | _=>none
def ps6_0:List PV:=((up 1 ((.d (.slice 32) .x)::(.d (.int .i64) (.int .i64))::(.ptr 0 [] k1_)::(up 2 ((.d (.slice 49) .slice)::(.d .bool .bool)::(up 1 ((.ptr 1 [] k0_)::(up 30 ((.d (.slice 32) .x)::(.d (.int .i64) (.int .i64))::(.d (.int .i64) (.int .i64))::(up 52 []))))))))))
def qs6_0:List PO:=[q6_,q1_,(.row 5 true)]
def of6_1:List Leaf→Option S6
 | [.d d35,.i i36,.b b37,.l l38,.b b39,.d d40,.i i41,.i i42,.d d43,.n n44,.n n45,.b b46,.l l47]=>some (.s1 d35 i36 b37 l38 b39 d40 i41 i42 d43 n44 n45 b46 l47)
 | _=>none
def ps6_1:List PV:=((up 1 ((.d (.slice 32) .x)::(.d (.int .i64) (.int .i64))::(.ptr 0 [] k1_)::(up 2 ((.d (.slice 49) .slice)::(.d .bool .bool)::(up 1 ((.ptr 1 [] k0_)::(up 30 ((.d (.slice 32) .x)::(.d (.int .i64) (.int .i64))::(.d (.int .i64) (.int .i64))::(up 52 []))))))))))
def qs6_1:List PO:=[q6_,q0_,(.row 5 true)]
def vv6:S6→List V×List AObj
 | .s0 d22 i23 b24 l25 b26 d27 i28 i29 d30 n31 n32 b33 l34=>((fillVs ps6_0 [.d d22,.i i23,.b b24,.l l25,.b b26,.d d27,.i i28,.i i29,.d d30,.n n31,.n n32,.b b33,.l l34]).1,(fillOs qs6_0 (fillVs ps6_0 [.d d22,.i i23,.b b24,.l l25,.b b26,.d d27,.i i28,.i i29,.d d30,.n n31,.n n32,.b b33,.l l34]).2).1)
 | .s1 d35 i36 b37 l38 b39 d40 i41 i42 d43 n44 n45 b46 l47=>((fillVs ps6_1 [.d d35,.i i36,.b b37,.l l38,.b b39,.d d40,.i i41,.i i42,.d d43,.n n44,.n n45,.b b46,.l l47]).1,(fillOs qs6_1 (fillVs ps6_1 [.d d35,.i i36,.b b37,.l l38,.b b39,.d d40,.i i41,.i i42,.d d43,.n n44,.n n45,.b b46,.l l47]).2).1)
noncomputable def su6 (M:Nat):Sum:=sumJ [1,2,3,6,7,9,40,41,42] [⟨ps6_0,qs6_0,of6_0⟩,⟨ps6_1,qs6_1,of6_1⟩] [(1056769,2)] (st6 M) ex6 M noSum
noncomputable def t2 (M:Nat):List Ent:=⟨17,11,0,6,su6 M⟩::t1 M
theorem t2_ok (M:Nat):AllOk (e M) (tblOf (t2 M)):=AllOk.addJ (n0:=3) (t1_ok M) (fun s=>(vv6 s).1) (fun s=>(vv6 s).2) (by kernel_rfl) rfl (.inl rfl) ⟨by intro ls s h;replace h:of6_0 ls=some s:=h;unfold of6_0 at h;(repeat' split at h)<;>simp at h;subst h;exact⟨by kernel_rfl,by kernel_rfl⟩,by intro ls s h;replace h:of6_1 ls=some s:=h;unfold of6_1 at h;(repeat' split at h)<;>simp at h;subst h;exact⟨by kernel_rfl,by kernel_rfl⟩,trivial⟩ (by intro s;cases s<;>kernel_rfl) (by intro s;cases s<;>kernel_rfl) (by intro s nx k;cases s<;>kernel_rfl)
structure S110_1 where
 (i53:Int) (d54:D) (n55 n56:Nat) (b57:Bool) (l58:List D) (d59:D) (i60 i61 i62:Int) (n63 n64:Nat) (b65:Bool) (l66:List D)
inductive X110_1 where
 | e0 (d54:D) (n55 n56:Nat) (b57:Bool) (l58:List D) (d59:D) (i60 i61 i62:Int) (n63 n64:Nat) (b65:Bool) (l66:List D)
def st110_1 (M:Nat):S110_1→(S110_1→Option D)→(X110_1→Option D)→Option D
 | ⟨i53,d54,n55,n56,b57,l58,d59,i60,i61,i62,n63,n64,b65,l66⟩,rec,K=>(cond (gtI (nI d59.s.size) 0) (cond (true&&(leI 0 (mini i60 (nI d59.s.size)))&&(leI (mini i60 (nI d59.s.size)) (nI d59.s.size))&&(leI (nI d59.s.size) (nI d59.s.size))) (cond (mx (n64+1)) (cond ((leI 0 (mini i60 (nI d59.s.size)))&&(leI (mini i60 (nI d59.s.size)) (nI d59.s.size))&&(leI (nI d59.s.size) (nI d59.s.size))&&(leI (nI d59.s.size) (nI d59.s.size))) (rec ⟨(ad .i64 i53 1),d54,n55,n56,b57,l58,(dS (d59.s.extract (mini i60 (nI d59.s.size)).toNat d59.s.size)),i60,i61,i62,0,(n64+1),(b65||true),(ap ((l66.drop n63).take n64) [(da [(di (ad .i64 i62 i53)),(di i61),(dS (d59.s.extract 0 (mini i60 (nI d59.s.size)).toNat))])])⟩) none) none) none) (K (.e0 d54 n55 n56 b57 l58 d59 i60 i61 i62 n63 n64 b65 l66)))
def ex110_1 (k:Kont):X110_1→Option D
 | .e0 d54 n55 n56 b57 l58 d59 i60 i61 i62 n63 n64 b65 l66=>k (.exit 0) ((us 31 [])) [(.var k1_ (vk k1_ d54)),(.var k0_ (.agg k0_ [(vk (.ptr 113) D.nilPtr),(.sref 2 n55 n56)])),(.row 5 true b57 l58),(.var .str (vk .str d59)),(.var (.int .i64) (vi i60)),(.var (.int .i64) (vi i61)),(.var (.int .i64) (vi i62)),(.var (.slice 49) (.sref 9 n63 n64)),o2_,(.row 49 true b65 l66)]
def of110_1_0:List Leaf→Option S110_1
 | [.i i53,.d d54,.n n55,.n n56,.b b57,.l l58,.d d59,.i i60,.i i61,.i i62,.n n63,.n n64,.b b65,.l l66]=>some ⟨i53,d54,n55,n56,b57,l58,d59,i60,i61,i62,n63,n64,b65,l66⟩
 | _=>none
def ps110_1_0:List PV:=((.yield 8)::(.ptr 3 [] .str)::(.ptr 4 [] (.int .i64))::(.ptr 6 [] (.int .i64))::(.ptr 5 [] (.int .i64))::(up 1 ((.d (.int .i64) (.int .i64))::(up 24 []))))
def qs110_1_0:List PO:=[q6_,q1_,(.row 5 true),(.var .str (.d .str .x)),q7_,q7_,q7_,(.var (.slice 49) (.sref 9)),q4_,(.row 49 true)]
def vv110_1:S110_1→List V×List AObj
 | ⟨i53,d54,n55,n56,b57,l58,d59,i60,i61,i62,n63,n64,b65,l66⟩=>((fillVs ps110_1_0 [.i i53,.d d54,.n n55,.n n56,.b b57,.l l58,.d d59,.i i60,.i i61,.i i62,.n n63,.n n64,.b b65,.l l66]).1,(fillOs qs110_1_0 (fillVs ps110_1_0 [.i i53,.d d54,.n n55,.n n56,.b b57,.l l58,.d d59,.i i60,.i i61,.i i62,.n n63,.n n64,.b b65,.l l66]).2).1)
noncomputable def su110_1 (M:Nat):Sum:=sumJ [0,1,2,3,4,6] [⟨ps110_1_0,qs110_1_0,of110_1_0⟩] [(1048583,9)] (st110_1 M) ex110_1 M noSum
noncomputable def t3 (M:Nat):List Ent:=⟨110,8,9,1,su110_1 M⟩::t2 M
theorem t3_ok (M:Nat):AllOk (e M) (tblOf (t3 M)):=AllOk.addJ (n0:=10) (t2_ok M) (fun s=>(vv110_1 s).1) (fun s=>(vv110_1 s).2) (by kernel_rfl) rfl (.inl rfl) ⟨by intro ls s h;replace h:of110_1_0 ls=some s:=h;unfold of110_1_0 at h;(repeat' split at h)<;>simp at h;subst h;exact⟨by kernel_rfl,by kernel_rfl⟩,trivial⟩ (by intro s;kernel_rfl) (by intro s;kernel_rfl) (by intro s nx k;kernel_rfl)
structure S110_1_9_17 where
 (i67:Int) (d68:D) (n69 n70:Nat) (d71:D) (i72 i73 i74:Int) (n75 n76 n77 n78:Nat) (s79:ByteArray) (i80 i81 i82:Int) (n83 n84:Nat) (b85:Bool) (l86:List D)
inductive X110_1_9_17 where
 | e0 (d68:D) (n69 n70:Nat) (d71:D) (i72 i73 i74:Int) (n75 n76 n77 n78:Nat) (s79:ByteArray) (i80 i81 i82:Int) (n83 n84:Nat) (b85:Bool) (l86:List D)
def st110_1_9_17 (M:Nat):S110_1_9_17→(S110_1_9_17→Option D)→(X110_1_9_17→Option D)→Option D
 | ⟨i67,d68,n69,n70,d71,i72,i73,i74,n75,n76,n77,n78,s79,i80,i81,i82,n83,n84,b85,l86⟩,rec,K=>(cond (gtI (nI s79.size) 0) (cond (true&&(leI 0 (mini i80 (nI s79.size)))&&(leI (mini i80 (nI s79.size)) (nI s79.size))&&(leI (nI s79.size) (nI s79.size))) (cond (mx (n84+1)) (cond ((leI 0 (mini i80 (nI s79.size)))&&(leI (mini i80 (nI s79.size)) (nI s79.size))&&(leI (nI s79.size) (nI s79.size))&&(leI (nI s79.size) (nI s79.size))) (rec ⟨(ad .i64 i67 1),d68,n69,n70,d71,i72,i73,i74,n75,n76,n77,n78,(s79.extract (mini i80 (nI s79.size)).toNat s79.size),i80,i81,i82,0,(n84+1),(b85||true),(ap ((l86.drop n83).take n84) [(da [(di (ad .i64 i82 i67)),(di i81),(dS (s79.extract 0 (mini i80 (nI s79.size)).toNat))])])⟩) none) none) none) (K (.e0 d68 n69 n70 d71 i72 i73 i74 n75 n76 n77 n78 s79 i80 i81 i82 n83 n84 b85 l86)))
def ex110_1_9_17 (k:Kont):X110_1_9_17→Option D
 | .e0 d68 n69 n70 d71 i72 i73 i74 n75 n76 n77 n78 s79 i80 i81 i82 n83 n84 b85 l86=>k (.exit 0) ((us 31 [])) [(.var k1_ (vk k1_ d68)),(.var k0_ (.agg k0_ [(vk (.ptr 113) D.nilPtr),(.sref 2 n69 n70)])),.dead,(.var .str (vk .str d71)),(.var (.int .i64) (vi i72)),(.var (.int .i64) (vi i73)),(.var (.int .i64) (vi i74)),(.var (.slice 49) (.sref 9 n75 n76)),.dead,.dead,(.var (.slice 49) (.sref 9 n77 n78)),(.var .str (vS s79)),(.var (.int .i64) (vi i80)),(.var (.int .i64) (vi i81)),(.var (.int .i64) (vi i82)),(.var (.slice 49) (.sref 17 n83 n84)),o1_,(.row 49 true b85 l86)]
def of110_1_9_17_0:List Leaf→Option S110_1_9_17
 | [.i i67,.d d68,.n n69,.n n70,.d d71,.i i72,.i i73,.i i74,.n n75,.n n76,.n n77,.n n78,.s s79,.i i80,.i i81,.i i82,.n n83,.n n84,.b b85,.l l86]=>some ⟨i67,d68,n69,n70,d71,i72,i73,i74,n75,n76,n77,n78,s79,i80,i81,i82,n83,n84,b85,l86⟩
 | _=>none
def ps110_1_9_17_0:List PV:=((.yield 16)::(.ptr 11 [] .str)::(.ptr 12 [] (.int .i64))::(.ptr 14 [] (.int .i64))::(.ptr 13 [] (.int .i64))::(up 1 ((.d (.int .i64) (.int .i64))::(up 24 []))))
def qs110_1_9_17_0:List PO:=[q6_,q1_,.dead,(.var .str (.d .str .x)),q7_,q7_,q7_,(.var (.slice 49) (.sref 9)),.dead,.dead,(.var (.slice 49) (.sref 9)),(.var .str (.d .str .str)),q7_,q7_,q7_,(.var (.slice 49) (.sref 17)),q3_,(.row 49 true)]
def vv110_1_9_17:S110_1_9_17→List V×List AObj
 | ⟨i67,d68,n69,n70,d71,i72,i73,i74,n75,n76,n77,n78,s79,i80,i81,i82,n83,n84,b85,l86⟩=>((fillVs ps110_1_9_17_0 [.i i67,.d d68,.n n69,.n n70,.d d71,.i i72,.i i73,.i i74,.n n75,.n n76,.n n77,.n n78,.s s79,.i i80,.i i81,.i i82,.n n83,.n n84,.b b85,.l l86]).1,(fillOs qs110_1_9_17_0 (fillVs ps110_1_9_17_0 [.i i67,.d d68,.n n69,.n n70,.d d71,.i i72,.i i73,.i i74,.n n75,.n n76,.n n77,.n n78,.s s79,.i i80,.i i81,.i i82,.n n83,.n n84,.b b85,.l l86]).2).1)
noncomputable def su110_1_9_17 (M:Nat):Sum:=sumJ [0,1,2,3,4,6] [⟨ps110_1_9_17_0,qs110_1_9_17_0,of110_1_9_17_0⟩] [(1048583,9),(1048591,17)] (st110_1_9_17 M) ex110_1_9_17 M noSum
noncomputable def t4 (M:Nat):List Ent:=⟨110,9,17,1,su110_1_9_17 M⟩::t3 M
theorem t4_ok (M:Nat):AllOk (e M) (tblOf (t4 M)):=AllOk.addJ (n0:=18) (t3_ok M) (fun s=>(vv110_1_9_17 s).1) (fun s=>(vv110_1_9_17 s).2) (by kernel_rfl) rfl (.inl rfl) ⟨by intro ls s h;replace h:of110_1_9_17_0 ls=some s:=h;unfold of110_1_9_17_0 at h;(repeat' split at h)<;>simp at h;subst h;exact⟨by kernel_rfl,by kernel_rfl⟩,trivial⟩ (by intro s;kernel_rfl) (by intro s;kernel_rfl) (by intro s nx k;kernel_rfl)
structure S110_1_10_25 where
 (i113:Int) (d114:D) (n115 n116:Nat) (d117:D) (i118 i119 i120:Int) (n121 n122 n123 n124:Nat) (s125:ByteArray) (i126 i127 i128:Int) (n129 n130:Nat) (d131 d132:D) (i133:Int) (d134:D) (i135:Int) (b136:Bool) (l137:List D)
inductive X110_1_10_25 where
 | e0 (d114:D) (n115 n116:Nat) (d117:D) (i118 i119 i120:Int) (n121 n122 n123 n124:Nat) (s125:ByteArray) (i126 i127 i128:Int) (n129 n130:Nat) (d131 d132:D) (i133:Int) (d134:D) (i135:Int) (b136:Bool) (l137:List D)
def st110_1_10_25 (M:Nat):S110_1_10_25→(S110_1_10_25→Option D)→(X110_1_10_25→Option D)→Option D
 | ⟨i113,d114,n115,n116,d117,i118,i119,i120,n121,n122,n123,n124,s125,i126,i127,i128,n129,n130,d131,d132,i133,d134,i135,b136,l137⟩,rec,K=>(cond (gtI (nI d132.s.size) 0) (cond (true&&(leI 0 (mini i133 (nI d132.s.size)))&&(leI (mini i133 (nI d132.s.size)) (nI d132.s.size))&&(leI (nI d132.s.size) (nI d132.s.size))) (cond (mx (n124+1)) (cond ((leI 0 (mini i133 (nI d132.s.size)))&&(leI (mini i133 (nI d132.s.size)) (nI d132.s.size))&&(leI (nI d132.s.size) (nI d132.s.size))&&(leI (nI d132.s.size) (nI d132.s.size))) (rec ⟨(ad .i64 i113 1),d114,n115,n116,d117,i118,i119,i120,n121,n122,0,(n124+1),s125,i126,i127,i128,n129,n130,d131,(dS (d132.s.extract (mini i133 (nI d132.s.size)).toNat d132.s.size)),i133,d134,i135,(b136||true),(ap ((l137.drop n123).take n124) [(da [(di (ad .i64 i135 i113)),d134,(dS (d132.s.extract 0 (mini i133 (nI d132.s.size)).toNat))])])⟩) none) none) none) (K (.e0 d114 n115 n116 d117 i118 i119 i120 n121 n122 n123 n124 s125 i126 i127 i128 n129 n130 d131 d132 i133 d134 i135 b136 l137)))
def ex110_1_10_25 (k:Kont):X110_1_10_25→Option D
 | .e0 d114 n115 n116 d117 i118 i119 i120 n121 n122 n123 n124 s125 i126 i127 i128 n129 n130 d131 d132 i133 d134 i135 b136 l137=>k (.exit 0) ((us 31 [])) [(.var k1_ (vk k1_ d114)),(.var k0_ (.agg k0_ [(vk (.ptr 113) D.nilPtr),(.sref 2 n115 n116)])),.dead,(.var .str (vk .str d117)),(.var (.int .i64) (vi i118)),(.var (.int .i64) (vi i119)),(.var (.int .i64) (vi i120)),(.var (.slice 49) (.sref 9 n121 n122)),.dead,.dead,(.var (.slice 49) (.sref 25 n123 n124)),(.var .str (vS s125)),(.var (.int .i64) (vi i126)),(.var (.int .i64) (vi i127)),(.var (.int .i64) (vi i128)),(.var (.slice 49) (.sref 17 n129 n130)),.dead,.dead,.dead,(.var k3_ (vk k3_ d131)),(.var .str (vk .str d132)),(.var (.int .i64) (vi i133)),(.var (.int .i64) (vk (.int .i64) d134)),(.var (.int .i64) (vi i135)),o0_,(.row 49 true b136 l137)]
def of110_1_10_25_0:List Leaf→Option S110_1_10_25
 | [.i i113,.d d114,.n n115,.n n116,.d d117,.i i118,.i i119,.i i120,.n n121,.n n122,.n n123,.n n124,.s s125,.i i126,.i i127,.i i128,.n n129,.n n130,.d d131,.d d132,.i i133,.d d134,.i i135,.b b136,.l l137]=>some ⟨i113,d114,n115,n116,d117,i118,i119,i120,n121,n122,n123,n124,s125,i126,i127,i128,n129,n130,d131,d132,i133,d134,i135,b136,l137⟩
 | _=>none
def ps110_1_10_25_0:List PV:=((.yield 24)::(.ptr 20 [] .str)::(.ptr 21 [] (.int .i64))::(.ptr 23 [] (.int .i64))::(.ptr 22 [] (.int .i64))::(up 1 ((.d (.int .i64) (.int .i64))::(up 24 []))))
def qs110_1_10_25_0:List PO:=[q6_,q1_,.dead,(.var .str (.d .str .x)),q7_,q7_,q7_,(.var (.slice 49) (.sref 9)),.dead,.dead,(.var (.slice 49) (.sref 25)),(.var .str (.d .str .str)),q7_,q7_,q7_,(.var (.slice 49) (.sref 17)),.dead,.dead,.dead,q5_,(.var .str (.d .str .x)),q7_,(.var (.int .i64) (.d (.int .i64) .x)),q7_,q2_,(.row 49 true)]
def vv110_1_10_25:S110_1_10_25→List V×List AObj
 | ⟨i113,d114,n115,n116,d117,i118,i119,i120,n121,n122,n123,n124,s125,i126,i127,i128,n129,n130,d131,d132,i133,d134,i135,b136,l137⟩=>((fillVs ps110_1_10_25_0 [.i i113,.d d114,.n n115,.n n116,.d d117,.i i118,.i i119,.i i120,.n n121,.n n122,.n n123,.n n124,.s s125,.i i126,.i i127,.i i128,.n n129,.n n130,.d d131,.d d132,.i i133,.d d134,.i i135,.b b136,.l l137]).1,(fillOs qs110_1_10_25_0 (fillVs ps110_1_10_25_0 [.i i113,.d d114,.n n115,.n n116,.d d117,.i i118,.i i119,.i i120,.n n121,.n n122,.n n123,.n n124,.s s125,.i i126,.i i127,.i i128,.n n129,.n n130,.d d131,.d d132,.i i133,.d d134,.i i135,.b b136,.l l137]).2).1)
noncomputable def su110_1_10_25 (M:Nat):Sum:=sumJ [0,1,2,3,4,6] [⟨ps110_1_10_25_0,qs110_1_10_25_0,of110_1_10_25_0⟩] [(1048583,9),(1048586,25)] (st110_1_10_25 M) ex110_1_10_25 M noSum
noncomputable def t5 (M:Nat):List Ent:=⟨110,10,25,1,su110_1_10_25 M⟩::t4 M
theorem t5_ok (M:Nat):AllOk (e M) (tblOf (t5 M)):=AllOk.addJ (n0:=26) (t4_ok M) (fun s=>(vv110_1_10_25 s).1) (fun s=>(vv110_1_10_25 s).2) (by kernel_rfl) rfl (.inl rfl) ⟨by intro ls s h;replace h:of110_1_10_25_0 ls=some s:=h;unfold of110_1_10_25_0 at h;(repeat' split at h)<;>simp at h;subst h;exact⟨by kernel_rfl,by kernel_rfl⟩,trivial⟩ (by intro s;kernel_rfl) (by intro s;kernel_rfl) (by intro s nx k;kernel_rfl)
structure S16 where
 (i87:Int) (b88:Bool) (l89:List D) (b90:Bool) (d91:D) (i92 i93:Int) (d94:D) (n95 n96:Nat) (d97:D) (i98 i99 i100:Int) (n101 n102 n103 n104:Nat) (s105:ByteArray) (i106 i107 i108:Int) (n109 n110:Nat) (b111:Bool) (l112:List D)
inductive X16 where
 | e0 (b88:Bool) (l89:List D) (b90:Bool) (d94:D) (n95 n96:Nat) (d97:D) (i98 i99 i100:Int) (n101 n102 n103 n104:Nat) (s105:ByteArray) (i106 i107 i108:Int) (n109 n110:Nat) (b111:Bool) (l112:List D)
def st16 (M:Nat):S16→(S16→Option D)→(X16→Option D)→Option D
 | ⟨i87,b88,l89,b90,d91,i92,i93,d94,n95,n96,d97,i98,i99,i100,n101,n102,n103,n104,s105,i106,i107,i108,n109,n110,b111,l112⟩,rec,K=>(cond (ltI i93 i92) (cond (inb i93 d91.elems.length) (goS (st110_1_10_25 M) M ⟨0,d94,n95,n96,d97,i98,i99,i100,n101,n102,n103,n104,s105,i106,i107,i108,n109,n110,(ix d91.elems i93.toNat),((ix d91.elems i93.toNat).at 2),i87,((ix d91.elems i93.toNat).at 0),(ml .i64 4096 ((ix d91.elems i93.toNat).at 0).i),b111,l112⟩ fun x=>match x with | .e0 d114 n115 n116 d117 i118 i119 i120 n121 n122 n123 n124 s125 i126 i127 i128 n129 n130 d131 d132 i133 d134 i135 b136 l137=>(rec ⟨i87,b88,l89,b90,d91,i92,(ad .i64 i93 1),d114,n115,n116,d117,i118,i119,i120,n121,n122,n123,n124,s125,i126,i127,i128,n129,n130,b136,l137⟩)) none) (K (.e0 b88 l89 b90 d94 n95 n96 d97 i98 i99 i100 n101 n102 n103 n104 s105 i106 i107 i108 n109 n110 b111 l112)))
def ex16 (k:Kont):X16→Option D
 | .e0 b88 l89 b90 d94 n95 n96 d97 i98 i99 i100 n101 n102 n103 n104 s105 i106 i107 i108 n109 n110 b111 l112=>k (.exit 2) ((us 6 ((vk (.slice 49) (dl b88 l89))::(vb b90)::(us 6 ((.ptr 10 [] (.slice 49))::(us 80 [])))))) [(.var k1_ (vk k1_ d94)),(.var k0_ (.agg k0_ [(vk (.ptr 113) D.nilPtr),(.sref 2 n95 n96)])),.dead,(.var .str (vk .str d97)),(.var (.int .i64) (vi i98)),(.var (.int .i64) (vi i99)),(.var (.int .i64) (vi i100)),(.var (.slice 49) (.sref 9 n101 n102)),.dead,.dead,(.var (.slice 49) (.sref 18 n103 n104)),(.var .str (vS s105)),(.var (.int .i64) (vi i106)),(.var (.int .i64) (vi i107)),(.var (.int .i64) (vi i108)),(.var (.slice 49) (.sref 17 n109 n110)),.dead,.dead,(.row 49 true b111 l112)]
def of16_0:List Leaf→Option S16
 | [.i i87,.b b88,.l l89,.b b90,.d d91,.i i92,.i i93,.d d94,.n n95,.n n96,.d d97,.i i98,.i i99,.i i100,.n n101,.n n102,.n n103,.n n104,.s s105,.i i106,.i i107,.i i108,.n n109,.n n110,.b b111,.l l112]=>some ⟨i87,b88,l89,b90,d91,i92,i93,d94,n95,n96,d97,i98,i99,i100,n101,n102,n103,n104,s105,i106,i107,i108,n109,n110,b111,l112⟩
 | _=>none
def ps16_0:List PV:=((up 2 ((.d (.int .i64) (.int .i64))::(up 3 ((.d (.slice 49) .slice)::(.d .bool .bool)::(up 6 ((.ptr 10 [] (.slice 49))::(up 55 ((.d (.slice 68) .x)::(.d (.int .i64) (.int .i64))::(.d (.int .i64) (.int .i64))::(up 22 []))))))))))
def qs16_0:List PO:=[q6_,q1_,.dead,(.var .str (.d .str .x)),q7_,q7_,q7_,(.var (.slice 49) (.sref 9)),.dead,.dead,(.var (.slice 49) (.sref 18)),(.var .str (.d .str .str)),q7_,q7_,q7_,(.var (.slice 49) (.sref 17)),.dead,.dead,(.row 49 true)]
def vv16:S16→List V×List AObj
 | ⟨i87,b88,l89,b90,d91,i92,i93,d94,n95,n96,d97,i98,i99,i100,n101,n102,n103,n104,s105,i106,i107,i108,n109,n110,b111,l112⟩=>((fillVs ps16_0 [.i i87,.b b88,.l l89,.b b90,.d d91,.i i92,.i i93,.d d94,.n n95,.n n96,.d d97,.i i98,.i i99,.i i100,.n n101,.n n102,.n n103,.n n104,.s s105,.i i106,.i i107,.i i108,.n n109,.n n110,.b b111,.l l112]).1,(fillOs qs16_0 (fillVs ps16_0 [.i i87,.b b88,.l l89,.b b90,.d d91,.i i92,.i i93,.d d94,.n n95,.n n96,.d d97,.i i98,.i i99,.i i100,.n n101,.n n102,.n n103,.n n104,.s s105,.i i106,.i i107,.i i108,.n n109,.n n110,.b b111,.l l112]).2).1)
noncomputable def su16 (M:Nat):Sum:=sumJ [2,6,7,14,70,71,72] [⟨ps16_0,qs16_0,of16_0⟩] [(1048586,18)] (st16 M) ex16 M noSum
noncomputable def t6 (M:Nat):List Ent:=⟨17,11,0,16,su16 M⟩::t5 M
theorem t6_ok (M:Nat):AllOk (e M) (tblOf (t6 M)):=AllOk.addJ (n0:=19) (t5_ok M) (fun s=>(vv16 s).1) (fun s=>(vv16 s).2) (by kernel_rfl) rfl (.inl rfl) ⟨by intro ls s h;replace h:of16_0 ls=some s:=h;unfold of16_0 at h;(repeat' split at h)<;>simp at h;subst h;exact⟨by kernel_rfl,by kernel_rfl⟩,trivial⟩ (by intro s;kernel_rfl) (by intro s;kernel_rfl) (by intro s nx k;kernel_rfl)
structure S110_1_8_9 where
 (i139:Int) (d140:D) (n141 n142:Nat) (b143:Bool) (l144:List D) (d145:D) (i146 i147 i148:Int) (n149 n150:Nat) (b151:Bool) (l152:List D)
inductive X110_1_8_9 where
 | e0 (d140:D) (n141 n142:Nat) (b143:Bool) (l144:List D) (d145:D) (i146 i147 i148:Int) (n149 n150:Nat) (b151:Bool) (l152:List D)
def st110_1_8_9 (M:Nat):S110_1_8_9→(S110_1_8_9→Option D)→(X110_1_8_9→Option D)→Option D
 | ⟨i139,d140,n141,n142,b143,l144,d145,i146,i147,i148,n149,n150,b151,l152⟩,rec,K=>(cond (gtI (nI d145.s.size) 0) (cond (true&&(leI 0 (mini i146 (nI d145.s.size)))&&(leI (mini i146 (nI d145.s.size)) (nI d145.s.size))&&(leI (nI d145.s.size) (nI d145.s.size))) (cond (mx (n150+1)) (cond ((leI 0 (mini i146 (nI d145.s.size)))&&(leI (mini i146 (nI d145.s.size)) (nI d145.s.size))&&(leI (nI d145.s.size) (nI d145.s.size))&&(leI (nI d145.s.size) (nI d145.s.size))) (rec ⟨(ad .i64 i139 1),d140,n141,n142,b143,l144,(dS (d145.s.extract (mini i146 (nI d145.s.size)).toNat d145.s.size)),i146,i147,i148,0,(n150+1),(b151||true),(ap ((l152.drop n149).take n150) [(da [(di (ad .i64 i148 i139)),(di i147),(dS (d145.s.extract 0 (mini i146 (nI d145.s.size)).toNat))])])⟩) none) none) none) (K (.e0 d140 n141 n142 b143 l144 d145 i146 i147 i148 n149 n150 b151 l152)))
def ex110_1_8_9 (k:Kont):X110_1_8_9→Option D
 | .e0 d140 n141 n142 b143 l144 d145 i146 i147 i148 n149 n150 b151 l152=>k (.exit 0) ((us 31 [])) [(.var k1_ (vk k1_ d140)),(.var k0_ (.agg k0_ [(.ptr 1 [] k0_),(.sref 2 n141 n142)])),(.row 5 true b143 l144),(.var .str (vk .str d145)),(.var (.int .i64) (vi i146)),(.var (.int .i64) (vi i147)),(.var (.int .i64) (vi i148)),(.var (.slice 49) (.sref 9 n149 n150)),o2_,(.row 49 true b151 l152)]
def of110_1_8_9_0:List Leaf→Option S110_1_8_9
 | [.i i139,.d d140,.n n141,.n n142,.b b143,.l l144,.d d145,.i i146,.i i147,.i i148,.n n149,.n n150,.b b151,.l l152]=>some ⟨i139,d140,n141,n142,b143,l144,d145,i146,i147,i148,n149,n150,b151,l152⟩
 | _=>none
def ps110_1_8_9_0:List PV:=((.yield 8)::(.ptr 3 [] .str)::(.ptr 4 [] (.int .i64))::(.ptr 6 [] (.int .i64))::(.ptr 5 [] (.int .i64))::(up 1 ((.d (.int .i64) (.int .i64))::(up 24 []))))
def qs110_1_8_9_0:List PO:=[q6_,q0_,(.row 5 true),(.var .str (.d .str .x)),q7_,q7_,q7_,(.var (.slice 49) (.sref 9)),q4_,(.row 49 true)]
def vv110_1_8_9:S110_1_8_9→List V×List AObj
 | ⟨i139,d140,n141,n142,b143,l144,d145,i146,i147,i148,n149,n150,b151,l152⟩=>((fillVs ps110_1_8_9_0 [.i i139,.d d140,.n n141,.n n142,.b b143,.l l144,.d d145,.i i146,.i i147,.i i148,.n n149,.n n150,.b b151,.l l152]).1,(fillOs qs110_1_8_9_0 (fillVs ps110_1_8_9_0 [.i i139,.d d140,.n n141,.n n142,.b b143,.l l144,.d d145,.i i146,.i i147,.i i148,.n n149,.n n150,.b b151,.l l152]).2).1)
noncomputable def su110_1_8_9 (M:Nat):Sum:=sumJ [0,1,2,3,4,6] [⟨ps110_1_8_9_0,qs110_1_8_9_0,of110_1_8_9_0⟩] [(1048583,9)] (st110_1_8_9 M) ex110_1_8_9 M (su110_1 M)
noncomputable def t7 (M:Nat):List Ent:=⟨110,8,9,1,su110_1_8_9 M⟩::t6 M
theorem t7_ok (M:Nat):AllOk (e M) (tblOf (t7 M)):=AllOk.addJ (n0:=10) (t6_ok M) (fun s=>(vv110_1_8_9 s).1) (fun s=>(vv110_1_8_9 s).2) (by kernel_rfl) rfl (.inr (by kernel_rfl)) ⟨by intro ls s h;replace h:of110_1_8_9_0 ls=some s:=h;unfold of110_1_8_9_0 at h;(repeat' split at h)<;>simp at h;subst h;exact⟨by kernel_rfl,by kernel_rfl⟩,trivial⟩ (by intro s;kernel_rfl) (by intro s;kernel_rfl) (by intro s nx k;kernel_rfl)
structure S110_1_9_17_w2 where
 (i153:Int) (d154:D) (n155 n156:Nat) (d157:D) (i158 i159 i160:Int) (n161 n162 n163 n164:Nat) (s165:ByteArray) (i166 i167 i168:Int) (n169 n170:Nat) (b171:Bool) (l172:List D)
inductive X110_1_9_17_w2 where
 | e0 (d154:D) (n155 n156:Nat) (d157:D) (i158 i159 i160:Int) (n161 n162 n163 n164:Nat) (s165:ByteArray) (i166 i167 i168:Int) (n169 n170:Nat) (b171:Bool) (l172:List D)
def st110_1_9_17_w2 (M:Nat):S110_1_9_17_w2→(S110_1_9_17_w2→Option D)→(X110_1_9_17_w2→Option D)→Option D
 | ⟨i153,d154,n155,n156,d157,i158,i159,i160,n161,n162,n163,n164,s165,i166,i167,i168,n169,n170,b171,l172⟩,rec,K=>(cond (gtI (nI s165.size) 0) (cond (true&&(leI 0 (mini i166 (nI s165.size)))&&(leI (mini i166 (nI s165.size)) (nI s165.size))&&(leI (nI s165.size) (nI s165.size))) (cond (mx (n170+1)) (cond ((leI 0 (mini i166 (nI s165.size)))&&(leI (mini i166 (nI s165.size)) (nI s165.size))&&(leI (nI s165.size) (nI s165.size))&&(leI (nI s165.size) (nI s165.size))) (rec ⟨(ad .i64 i153 1),d154,n155,n156,d157,i158,i159,i160,n161,n162,n163,n164,(s165.extract (mini i166 (nI s165.size)).toNat s165.size),i166,i167,i168,0,(n170+1),(b171||true),(ap ((l172.drop n169).take n170) [(da [(di (ad .i64 i168 i153)),(di i167),(dS (s165.extract 0 (mini i166 (nI s165.size)).toNat))])])⟩) none) none) none) (K (.e0 d154 n155 n156 d157 i158 i159 i160 n161 n162 n163 n164 s165 i166 i167 i168 n169 n170 b171 l172)))
def ex110_1_9_17_w2 (k:Kont):X110_1_9_17_w2→Option D
 | .e0 d154 n155 n156 d157 i158 i159 i160 n161 n162 n163 n164 s165 i166 i167 i168 n169 n170 b171 l172=>k (.exit 0) ((us 31 [])) [(.var k1_ (vk k1_ d154)),(.var k0_ (.agg k0_ [(.ptr 1 [] k0_),(.sref 2 n155 n156)])),.dead,(.var .str (vk .str d157)),(.var (.int .i64) (vi i158)),(.var (.int .i64) (vi i159)),(.var (.int .i64) (vi i160)),(.var (.slice 49) (.sref 9 n161 n162)),.dead,.dead,(.var (.slice 49) (.sref 9 n163 n164)),(.var .str (vS s165)),(.var (.int .i64) (vi i166)),(.var (.int .i64) (vi i167)),(.var (.int .i64) (vi i168)),(.var (.slice 49) (.sref 17 n169 n170)),o1_,(.row 49 true b171 l172)]
def of110_1_9_17_w2_0:List Leaf→Option S110_1_9_17_w2
 | [.i i153,.d d154,.n n155,.n n156,.d d157,.i i158,.i i159,.i i160,.n n161,.n n162,.n n163,.n n164,.s s165,.i i166,.i i167,.i i168,.n n169,.n n170,.b b171,.l l172]=>some ⟨i153,d154,n155,n156,d157,i158,i159,i160,n161,n162,n163,n164,s165,i166,i167,i168,n169,n170,b171,l172⟩
 | _=>none
def ps110_1_9_17_w2_0:List PV:=((.yield 16)::(.ptr 11 [] .str)::(.ptr 12 [] (.int .i64))::(.ptr 14 [] (.int .i64))::(.ptr 13 [] (.int .i64))::(up 1 ((.d (.int .i64) (.int .i64))::(up 24 []))))
def qs110_1_9_17_w2_0:List PO:=[q6_,q0_,.dead,(.var .str (.d .str .x)),q7_,q7_,q7_,(.var (.slice 49) (.sref 9)),.dead,.dead,(.var (.slice 49) (.sref 9)),(.var .str (.d .str .str)),q7_,q7_,q7_,(.var (.slice 49) (.sref 17)),q3_,(.row 49 true)]
def vv110_1_9_17_w2:S110_1_9_17_w2→List V×List AObj
 | ⟨i153,d154,n155,n156,d157,i158,i159,i160,n161,n162,n163,n164,s165,i166,i167,i168,n169,n170,b171,l172⟩=>((fillVs ps110_1_9_17_w2_0 [.i i153,.d d154,.n n155,.n n156,.d d157,.i i158,.i i159,.i i160,.n n161,.n n162,.n n163,.n n164,.s s165,.i i166,.i i167,.i i168,.n n169,.n n170,.b b171,.l l172]).1,(fillOs qs110_1_9_17_w2_0 (fillVs ps110_1_9_17_w2_0 [.i i153,.d d154,.n n155,.n n156,.d d157,.i i158,.i i159,.i i160,.n n161,.n n162,.n n163,.n n164,.s s165,.i i166,.i i167,.i i168,.n n169,.n n170,.b b171,.l l172]).2).1)
noncomputable def su110_1_9_17_w2 (M:Nat):Sum:=sumJ [0,1,2,3,4,6] [⟨ps110_1_9_17_w2_0,qs110_1_9_17_w2_0,of110_1_9_17_w2_0⟩] [(1048583,9),(1048591,17)] (st110_1_9_17_w2 M) ex110_1_9_17_w2 M (su110_1_9_17 M)
noncomputable def t8 (M:Nat):List Ent:=⟨110,9,17,1,su110_1_9_17_w2 M⟩::t7 M
theorem t8_ok (M:Nat):AllOk (e M) (tblOf (t8 M)):=AllOk.addJ (n0:=18) (t7_ok M) (fun s=>(vv110_1_9_17_w2 s).1) (fun s=>(vv110_1_9_17_w2 s).2) (by kernel_rfl) rfl (.inr (by kernel_rfl)) ⟨by intro ls s h;replace h:of110_1_9_17_w2_0 ls=some s:=h;unfold of110_1_9_17_w2_0 at h;(repeat' split at h)<;>simp at h;subst h;exact⟨by kernel_rfl,by kernel_rfl⟩,trivial⟩ (by intro s;kernel_rfl) (by intro s;kernel_rfl) (by intro s nx k;kernel_rfl)
structure S110_1_10_25_w2 where
 (i199:Int) (d200:D) (n201 n202:Nat) (d203:D) (i204 i205 i206:Int) (n207 n208 n209 n210:Nat) (s211:ByteArray) (i212 i213 i214:Int) (n215 n216:Nat) (d217 d218:D) (i219:Int) (d220:D) (i221:Int) (b222:Bool) (l223:List D)
inductive X110_1_10_25_w2 where
 | e0 (d200:D) (n201 n202:Nat) (d203:D) (i204 i205 i206:Int) (n207 n208 n209 n210:Nat) (s211:ByteArray) (i212 i213 i214:Int) (n215 n216:Nat) (d217 d218:D) (i219:Int) (d220:D) (i221:Int) (b222:Bool) (l223:List D)
def st110_1_10_25_w2 (M:Nat):S110_1_10_25_w2→(S110_1_10_25_w2→Option D)→(X110_1_10_25_w2→Option D)→Option D
 | ⟨i199,d200,n201,n202,d203,i204,i205,i206,n207,n208,n209,n210,s211,i212,i213,i214,n215,n216,d217,d218,i219,d220,i221,b222,l223⟩,rec,K=>(cond (gtI (nI d218.s.size) 0) (cond (true&&(leI 0 (mini i219 (nI d218.s.size)))&&(leI (mini i219 (nI d218.s.size)) (nI d218.s.size))&&(leI (nI d218.s.size) (nI d218.s.size))) (cond (mx (n210+1)) (cond ((leI 0 (mini i219 (nI d218.s.size)))&&(leI (mini i219 (nI d218.s.size)) (nI d218.s.size))&&(leI (nI d218.s.size) (nI d218.s.size))&&(leI (nI d218.s.size) (nI d218.s.size))) (rec ⟨(ad .i64 i199 1),d200,n201,n202,d203,i204,i205,i206,n207,n208,0,(n210+1),s211,i212,i213,i214,n215,n216,d217,(dS (d218.s.extract (mini i219 (nI d218.s.size)).toNat d218.s.size)),i219,d220,i221,(b222||true),(ap ((l223.drop n209).take n210) [(da [(di (ad .i64 i221 i199)),d220,(dS (d218.s.extract 0 (mini i219 (nI d218.s.size)).toNat))])])⟩) none) none) none) (K (.e0 d200 n201 n202 d203 i204 i205 i206 n207 n208 n209 n210 s211 i212 i213 i214 n215 n216 d217 d218 i219 d220 i221 b222 l223)))
def ex110_1_10_25_w2 (k:Kont):X110_1_10_25_w2→Option D
 | .e0 d200 n201 n202 d203 i204 i205 i206 n207 n208 n209 n210 s211 i212 i213 i214 n215 n216 d217 d218 i219 d220 i221 b222 l223=>k (.exit 0) ((us 31 [])) [(.var k1_ (vk k1_ d200)),(.var k0_ (.agg k0_ [(.ptr 1 [] k0_),(.sref 2 n201 n202)])),.dead,(.var .str (vk .str d203)),(.var (.int .i64) (vi i204)),(.var (.int .i64) (vi i205)),(.var (.int .i64) (vi i206)),(.var (.slice 49) (.sref 9 n207 n208)),.dead,.dead,(.var (.slice 49) (.sref 25 n209 n210)),(.var .str (vS s211)),(.var (.int .i64) (vi i212)),(.var (.int .i64) (vi i213)),(.var (.int .i64) (vi i214)),(.var (.slice 49) (.sref 17 n215 n216)),.dead,.dead,.dead,(.var k3_ (vk k3_ d217)),(.var .str (vk .str d218)),(.var (.int .i64) (vi i219)),(.var (.int .i64) (vk (.int .i64) d220)),(.var (.int .i64) (vi i221)),o0_,(.row 49 true b222 l223)]
def of110_1_10_25_w2_0:List Leaf→Option S110_1_10_25_w2
 | [.i i199,.d d200,.n n201,.n n202,.d d203,.i i204,.i i205,.i i206,.n n207,.n n208,.n n209,.n n210,.s s211,.i i212,.i i213,.i i214,.n n215,.n n216,.d d217,.d d218,.i i219,.d d220,.i i221,.b b222,.l l223]=>some ⟨i199,d200,n201,n202,d203,i204,i205,i206,n207,n208,n209,n210,s211,i212,i213,i214,n215,n216,d217,d218,i219,d220,i221,b222,l223⟩
 | _=>none
def ps110_1_10_25_w2_0:List PV:=((.yield 24)::(.ptr 20 [] .str)::(.ptr 21 [] (.int .i64))::(.ptr 23 [] (.int .i64))::(.ptr 22 [] (.int .i64))::(up 1 ((.d (.int .i64) (.int .i64))::(up 24 []))))
def qs110_1_10_25_w2_0:List PO:=[q6_,q0_,.dead,(.var .str (.d .str .x)),q7_,q7_,q7_,(.var (.slice 49) (.sref 9)),.dead,.dead,(.var (.slice 49) (.sref 25)),(.var .str (.d .str .str)),q7_,q7_,q7_,(.var (.slice 49) (.sref 17)),.dead,.dead,.dead,q5_,(.var .str (.d .str .x)),q7_,(.var (.int .i64) (.d (.int .i64) .x)),q7_,q2_,(.row 49 true)]
def vv110_1_10_25_w2:S110_1_10_25_w2→List V×List AObj
 | ⟨i199,d200,n201,n202,d203,i204,i205,i206,n207,n208,n209,n210,s211,i212,i213,i214,n215,n216,d217,d218,i219,d220,i221,b222,l223⟩=>((fillVs ps110_1_10_25_w2_0 [.i i199,.d d200,.n n201,.n n202,.d d203,.i i204,.i i205,.i i206,.n n207,.n n208,.n n209,.n n210,.s s211,.i i212,.i i213,.i i214,.n n215,.n n216,.d d217,.d d218,.i i219,.d d220,.i i221,.b b222,.l l223]).1,(fillOs qs110_1_10_25_w2_0 (fillVs ps110_1_10_25_w2_0 [.i i199,.d d200,.n n201,.n n202,.d d203,.i i204,.i i205,.i i206,.n n207,.n n208,.n n209,.n n210,.s s211,.i i212,.i i213,.i i214,.n n215,.n n216,.d d217,.d d218,.i i219,.d d220,.i i221,.b b222,.l l223]).2).1)
noncomputable def su110_1_10_25_w2 (M:Nat):Sum:=sumJ [0,1,2,3,4,6] [⟨ps110_1_10_25_w2_0,qs110_1_10_25_w2_0,of110_1_10_25_w2_0⟩] [(1048583,9),(1048586,25)] (st110_1_10_25_w2 M) ex110_1_10_25_w2 M (su110_1_10_25 M)
noncomputable def t9 (M:Nat):List Ent:=⟨110,10,25,1,su110_1_10_25_w2 M⟩::t8 M
theorem t9_ok (M:Nat):AllOk (e M) (tblOf (t9 M)):=AllOk.addJ (n0:=26) (t8_ok M) (fun s=>(vv110_1_10_25_w2 s).1) (fun s=>(vv110_1_10_25_w2 s).2) (by kernel_rfl) rfl (.inr (by kernel_rfl)) ⟨by intro ls s h;replace h:of110_1_10_25_w2_0 ls=some s:=h;unfold of110_1_10_25_w2_0 at h;(repeat' split at h)<;>simp at h;subst h;exact⟨by kernel_rfl,by kernel_rfl⟩,trivial⟩ (by intro s;kernel_rfl) (by intro s;kernel_rfl) (by intro s nx k;kernel_rfl)
structure S16_11_0 where
 (i173:Int) (b174:Bool) (l175:List D) (b176:Bool) (d177:D) (i178 i179:Int) (d180:D) (n181 n182:Nat) (d183:D) (i184 i185 i186:Int) (n187 n188 n189 n190:Nat) (s191:ByteArray) (i192 i193 i194:Int) (n195 n196:Nat) (b197:Bool) (l198:List D)
inductive X16_11_0 where
 | e0 (b174:Bool) (l175:List D) (b176:Bool) (d180:D) (n181 n182:Nat) (d183:D) (i184 i185 i186:Int) (n187 n188 n189 n190:Nat) (s191:ByteArray) (i192 i193 i194:Int) (n195 n196:Nat) (b197:Bool) (l198:List D)
def st16_11_0 (M:Nat):S16_11_0→(S16_11_0→Option D)→(X16_11_0→Option D)→Option D
 | ⟨i173,b174,l175,b176,d177,i178,i179,d180,n181,n182,d183,i184,i185,i186,n187,n188,n189,n190,s191,i192,i193,i194,n195,n196,b197,l198⟩,rec,K=>(cond (ltI i179 i178) (cond (inb i179 d177.elems.length) (goS (st110_1_10_25_w2 M) M ⟨0,d180,n181,n182,d183,i184,i185,i186,n187,n188,n189,n190,s191,i192,i193,i194,n195,n196,(ix d177.elems i179.toNat),((ix d177.elems i179.toNat).at 2),i173,((ix d177.elems i179.toNat).at 0),(ml .i64 4096 ((ix d177.elems i179.toNat).at 0).i),b197,l198⟩ fun x=>match x with | .e0 d200 n201 n202 d203 i204 i205 i206 n207 n208 n209 n210 s211 i212 i213 i214 n215 n216 d217 d218 i219 d220 i221 b222 l223=>(rec ⟨i173,b174,l175,b176,d177,i178,(ad .i64 i179 1),d200,n201,n202,d203,i204,i205,i206,n207,n208,n209,n210,s211,i212,i213,i214,n215,n216,b222,l223⟩)) none) (K (.e0 b174 l175 b176 d180 n181 n182 d183 i184 i185 i186 n187 n188 n189 n190 s191 i192 i193 i194 n195 n196 b197 l198)))
def ex16_11_0 (k:Kont):X16_11_0→Option D
 | .e0 b174 l175 b176 d180 n181 n182 d183 i184 i185 i186 n187 n188 n189 n190 s191 i192 i193 i194 n195 n196 b197 l198=>k (.exit 2) ((us 6 ((vk (.slice 49) (dl b174 l175))::(vb b176)::(us 6 ((.ptr 10 [] (.slice 49))::(us 80 [])))))) [(.var k1_ (vk k1_ d180)),(.var k0_ (.agg k0_ [(.ptr 1 [] k0_),(.sref 2 n181 n182)])),.dead,(.var .str (vk .str d183)),(.var (.int .i64) (vi i184)),(.var (.int .i64) (vi i185)),(.var (.int .i64) (vi i186)),(.var (.slice 49) (.sref 9 n187 n188)),.dead,.dead,(.var (.slice 49) (.sref 18 n189 n190)),(.var .str (vS s191)),(.var (.int .i64) (vi i192)),(.var (.int .i64) (vi i193)),(.var (.int .i64) (vi i194)),(.var (.slice 49) (.sref 17 n195 n196)),.dead,.dead,(.row 49 true b197 l198)]
def of16_11_0_0:List Leaf→Option S16_11_0
 | [.i i173,.b b174,.l l175,.b b176,.d d177,.i i178,.i i179,.d d180,.n n181,.n n182,.d d183,.i i184,.i i185,.i i186,.n n187,.n n188,.n n189,.n n190,.s s191,.i i192,.i i193,.i i194,.n n195,.n n196,.b b197,.l l198]=>some ⟨i173,b174,l175,b176,d177,i178,i179,d180,n181,n182,d183,i184,i185,i186,n187,n188,n189,n190,s191,i192,i193,i194,n195,n196,b197,l198⟩
 | _=>none
def ps16_11_0_0:List PV:=((up 2 ((.d (.int .i64) (.int .i64))::(up 3 ((.d (.slice 49) .slice)::(.d .bool .bool)::(up 6 ((.ptr 10 [] (.slice 49))::(up 55 ((.d (.slice 68) .x)::(.d (.int .i64) (.int .i64))::(.d (.int .i64) (.int .i64))::(up 22 []))))))))))
def qs16_11_0_0:List PO:=[q6_,q0_,.dead,(.var .str (.d .str .x)),q7_,q7_,q7_,(.var (.slice 49) (.sref 9)),.dead,.dead,(.var (.slice 49) (.sref 18)),(.var .str (.d .str .str)),q7_,q7_,q7_,(.var (.slice 49) (.sref 17)),.dead,.dead,(.row 49 true)]
def vv16_11_0:S16_11_0→List V×List AObj
 | ⟨i173,b174,l175,b176,d177,i178,i179,d180,n181,n182,d183,i184,i185,i186,n187,n188,n189,n190,s191,i192,i193,i194,n195,n196,b197,l198⟩=>((fillVs ps16_11_0_0 [.i i173,.b b174,.l l175,.b b176,.d d177,.i i178,.i i179,.d d180,.n n181,.n n182,.d d183,.i i184,.i i185,.i i186,.n n187,.n n188,.n n189,.n n190,.s s191,.i i192,.i i193,.i i194,.n n195,.n n196,.b b197,.l l198]).1,(fillOs qs16_11_0_0 (fillVs ps16_11_0_0 [.i i173,.b b174,.l l175,.b b176,.d d177,.i i178,.i i179,.d d180,.n n181,.n n182,.d d183,.i i184,.i i185,.i i186,.n n187,.n n188,.n n189,.n n190,.s s191,.i i192,.i i193,.i i194,.n n195,.n n196,.b b197,.l l198]).2).1)
noncomputable def su16_11_0 (M:Nat):Sum:=sumJ [2,6,7,14,70,71,72] [⟨ps16_11_0_0,qs16_11_0_0,of16_11_0_0⟩] [(1048586,18)] (st16_11_0 M) ex16_11_0 M (su16 M)
noncomputable def t (M:Nat):List Ent:=⟨17,11,0,16,su16_11_0 M⟩::t9 M
theorem t_ok (M:Nat):AllOk (e M) (tblOf (t M)):=AllOk.addJ (n0:=19) (t9_ok M) (fun s=>(vv16_11_0 s).1) (fun s=>(vv16_11_0 s).2) (by kernel_rfl) rfl (.inr (by kernel_rfl)) ⟨by intro ls s h;replace h:of16_11_0_0 ls=some s:=h;unfold of16_11_0_0 at h;(repeat' split at h)<;>simp at h;subst h;exact⟨by kernel_rfl,by kernel_rfl⟩,trivial⟩ (by intro s;kernel_rfl) (by intro s;kernel_rfl) (by intro s nx k;kernel_rfl)
def s (M:Nat) (p0:D) (p1:D) (p2:Int):Option D:=
 (bd (F53.s FUEL p0) fun r1=>(cond (!r1.b) (some (D.tup [(dl false []),(db false)])) (cond (ltI p2 8) (some (D.tup [(dl false []),(db false)])) (cond (gtI p2 224) (some (D.tup [(dl false []),(db false)])) (cond (gtI (nI p1.elems.length) 400) (some (D.tup [(dl false []),(db false)])) (goS (st78_2 M) M ⟨(p0.at 0),(nI (p0.at 0).elems.length),0,p0⟩ fun x=>match x with | .e0 i4 d5=>(cond (geI i4 0) (some (D.tup [(dl false []),(db false)])) (goS (st6 M) M (.s0 p1 p2 false [] false p1 (nI p1.elems.length) 0 d5 0 0 false []) fun x=>match x with | .e0 d22 i23 d27 i29 d30 n31 n32 b33 l34=>(some (D.tup [(dl false []),(db false)])) | .e1 d22 i23 b24 l25 b26 d30 n31 n32 b33 l34=>(bd (F60.s FUEL d30 (nI d22.elems.length)) fun r52=>(goS (st110_1 M) M ⟨0,d30,n31,n32,b33,l34,r52,i23,0,0,0,0,false,[]⟩ fun x=>match x with | .e0 d54 n55 n56 b57 l58 d59 i60 i61 i62 n63 n64 b65 l66=>(cond (true&&((bif b57 then (decide (0<n56)) else true)&&(mx n56))) (cond (((Nat.beq n63 n63)&&(Nat.beq n64 n64))&&true) (cond (((Nat.beq n63 n63)&&(Nat.beq n64 n64))&&true) (goS (st110_1_9_17 M) M ⟨0,d54,n55,n56,d59,i60,i61,i62,n63,n64,n63,n64,(ofBytes ((l58.drop n55).take n56)),i23,0,1000,n63,n64,b65,l66⟩ fun x=>match x with | .e0 d68 n69 n70 d71 i72 i73 i74 n75 n76 n77 n78 s79 i80 i81 i82 n83 n84 b85 l86=>(goS (st16 M) M ⟨i23,b24,l25,b26,(d68.at 0),(nI (d68.at 0).elems.length),0,d68,n69,n70,d71,i72,i73,i74,n75,n76,n83,n84,s79,i80,i81,i82,n83,n84,b85,l86⟩ fun x=>match x with | .e0 b88 l89 b90 d94 n95 n96 d97 i98 i99 i100 n101 n102 n103 n104 s105 i106 i107 i108 n109 n110 b111 l112=>(cond (gtI (nI n104) 400) (some (D.tup [(dl false []),(db false)])) (some (D.tup [(dl b111 ((l112.drop n103).take n104)),(db true)]))))) none) none) none))) | .e2 d35 i36 d40 i42 d43 n44 n45 b46 l47=>(some (D.tup [(dl false []),(db false)])) | .e3 d35 i36 b37 l38 b39 d43 n44 n45 b46 l47=>(bd (F60.s FUEL d43 (nI d35.elems.length)) fun r138=>(goS (st110_1_8_9 M) M ⟨0,d43,n44,n45,b46,l47,r138,i36,0,0,0,0,false,[]⟩ fun x=>match x with | .e0 d140 n141 n142 b143 l144 d145 i146 i147 i148 n149 n150 b151 l152=>(cond (true&&((bif b143 then (decide (0<n142)) else true)&&(mx n142))) (cond (((Nat.beq n149 n149)&&(Nat.beq n150 n150))&&true) (cond (((Nat.beq n149 n149)&&(Nat.beq n150 n150))&&true) (goS (st110_1_9_17_w2 M) M ⟨0,d140,n141,n142,d145,i146,i147,i148,n149,n150,n149,n150,(ofBytes ((l144.drop n141).take n142)),i36,0,1000,n149,n150,b151,l152⟩ fun x=>match x with | .e0 d154 n155 n156 d157 i158 i159 i160 n161 n162 n163 n164 s165 i166 i167 i168 n169 n170 b171 l172=>(goS (st16_11_0 M) M ⟨i36,b37,l38,b39,(d154.at 0),(nI (d154.at 0).elems.length),0,d154,n155,n156,d157,i158,i159,i160,n161,n162,n169,n170,s165,i166,i167,i168,n169,n170,b171,l172⟩ fun x=>match x with | .e0 b174 l175 b176 d180 n181 n182 d183 i184 i185 i186 n187 n188 n189 n190 s191 i192 i193 i194 n195 n196 b197 l198=>(cond (gtI (nI n190) 400) (some (D.tup [(dl false []),(db false)])) (some (D.tup [(dl b197 ((l198.drop n189).take n190)),(db true)]))))) none) none) none))))) | .e1 d5=>(goS (st6 M) M (.s0 p1 p2 false [] false p1 (nI p1.elems.length) 0 d5 0 0 false []) fun x=>match x with | .e0 d22 i23 d27 i29 d30 n31 n32 b33 l34=>(some (D.tup [(dl false []),(db false)])) | .e1 d22 i23 b24 l25 b26 d30 n31 n32 b33 l34=>(bd (F60.s FUEL d30 (nI d22.elems.length)) fun r224=>(goS (st110_1 M) M ⟨0,d30,n31,n32,b33,l34,r224,i23,0,0,0,0,false,[]⟩ fun x=>match x with | .e0 d54 n55 n56 b57 l58 d59 i60 i61 i62 n63 n64 b65 l66=>(cond (true&&((bif b57 then (decide (0<n56)) else true)&&(mx n56))) (cond (((Nat.beq n63 n63)&&(Nat.beq n64 n64))&&true) (cond (((Nat.beq n63 n63)&&(Nat.beq n64 n64))&&true) (goS (st110_1_9_17 M) M ⟨0,d54,n55,n56,d59,i60,i61,i62,n63,n64,n63,n64,(ofBytes ((l58.drop n55).take n56)),i23,0,1000,n63,n64,b65,l66⟩ fun x=>match x with | .e0 d68 n69 n70 d71 i72 i73 i74 n75 n76 n77 n78 s79 i80 i81 i82 n83 n84 b85 l86=>(goS (st16 M) M ⟨i23,b24,l25,b26,(d68.at 0),(nI (d68.at 0).elems.length),0,d68,n69,n70,d71,i72,i73,i74,n75,n76,n83,n84,s79,i80,i81,i82,n83,n84,b85,l86⟩ fun x=>match x with | .e0 b88 l89 b90 d94 n95 n96 d97 i98 i99 i100 n101 n102 n103 n104 s105 i106 i107 i108 n109 n110 b111 l112=>(cond (gtI (nI n104) 400) (some (D.tup [(dl false []),(db false)])) (some (D.tup [(dl b111 ((l112.drop n103).take n104)),(db true)]))))) none) none) none))) | .e2 d35 i36 d40 i42 d43 n44 n45 b46 l47=>(some (D.tup [(dl false []),(db false)])) | .e3 d35 i36 b37 l38 b39 d43 n44 n45 b46 l47=>(bd (F60.s FUEL d43 (nI d35.elems.length)) fun r225=>(goS (st110_1_8_9 M) M ⟨0,d43,n44,n45,b46,l47,r225,i36,0,0,0,0,false,[]⟩ fun x=>match x with | .e0 d140 n141 n142 b143 l144 d145 i146 i147 i148 n149 n150 b151 l152=>(cond (true&&((bif b143 then (decide (0<n142)) else true)&&(mx n142))) (cond (((Nat.beq n149 n149)&&(Nat.beq n150 n150))&&true) (cond (((Nat.beq n149 n149)&&(Nat.beq n150 n150))&&true) (goS (st110_1_9_17_w2 M) M ⟨0,d140,n141,n142,d145,i146,i147,i148,n149,n150,n149,n150,(ofBytes ((l144.drop n141).take n142)),i36,0,1000,n149,n150,b151,l152⟩ fun x=>match x with | .e0 d154 n155 n156 d157 i158 i159 i160 n161 n162 n163 n164 s165 i166 i167 i168 n169 n170 b171 l172=>(goS (st16_11_0 M) M ⟨i36,b37,l38,b39,(d154.at 0),(nI (d154.at 0).elems.length),0,d154,n155,n156,d157,i158,i159,i160,n161,n162,n169,n170,s165,i166,i167,i168,n169,n170,b171,l172⟩ fun x=>match x with | .e0 b174 l175 b176 d180 n181 n182 d183 i184 i185 i186 n187 n188 n189 n190 s191 i192 i193 i194 n195 n196 b197 l198=>(cond (gtI (nI n190) 400) (some (D.tup [(dl false []),(db false)])) (some (D.tup [(dl b197 ((l198.drop n189).take n190)),(db true)]))))) none) none) none))))))))))
theorem run (M:Nat) (p0:D) (p1:D) (p2:Int):callS (e M) (tblOf (t M)) 12 (.fn 17) [.d (.struct [22,3,3]) p0,.d (.slice 32) p1,.d (.int .i64) (di p2)] [] (fun v H=>finish ty [33,4] v H)=s M p0 p1 p2:=by kernel_rfl
def c:Con:={ run:=fun ds=>match ds with | [p0,p1,p2]=>s FUEL p0 p1 p2.i | _=>none }
theorem ok:ConOk (17,c):=mkC Tryz.f17 [(.struct [22,3,3]),(.slice 32),(.int .i64)] [33,4] (by kernel_rfl) (by kernel_rfl) (by kernel_rfl) (by kernel_rfl) (allCons F52.ok (allCons F53.ok (allCons F55.ok (allCons F57.ok (allCons F60.ok allNil))))) (allCons string_ok (allCons copyCheck_ok allNil)) (t_ok FUEL) fun a=>run FUEL a.1 a.2.1 a.2.2.1
end F17
end Go.AM.SY
namespace Go.AM.SY
open Go Go.AM Go.Proofs Go.RowKit
namespace F117
def k0_:K:=(.struct [111,108])
def cons:List (Nat×Con):=[]
def exts:List (Nat×Ext):=[(62,stringX (.struct [111,108])),(109,copyCheckX (.struct [111,108]) 5)]
def h:List (Nat×Nat×Hint):=[(117,3,{ live:=[1,2,3,9,12,13,14],rows:=[(1056768,5)],out:=some [9] })]
noncomputable def e (M:Nat):Env:=env cons exts h M
inductive S3 where
 | s0 (i11 i12 i13:Int) (d14:D) (i15 i16:Int) (n17 n18:Nat) (b19:Bool) (l20:List D)
 | s1 (i21 i22 i23:Int) (d24:D) (i25 i26:Int) (n27 n28:Nat) (b29:Bool) (l30:List D)
inductive X3 where
 | e0 (n17 n18:Nat) (b19:Bool) (l20:List D)
 | e1 (n27 n28:Nat) (b29:Bool) (l30:List D)
def st3 (M:Nat):S3→(S3→Option D)→(X3→Option D)→Option D
 | .s0 i11 i12 i13 d14 i15 i16 n17 n18 b19 l20,rec,K=>(cond (ltI i16 i15) (cond (inb i16 d14.elems.length) (cond (eqI ((ix d14.elems i16.toNat).at 1).i i11) (cond (geI ((ix d14.elems i16.toNat).at 0).i i12) (cond (ltI ((ix d14.elems i16.toNat).at 0).i i13) (cond (mx (n18+(bytesOf ((ix d14.elems i16.toNat).at 2).s).length)) (rec (.s1 i11 i12 i13 d14 i15 (ad .i64 i16 1) 0 (n18+(bytesOf ((ix d14.elems i16.toNat).at 2).s).length) (b19||(!(bytesOf ((ix d14.elems i16.toNat).at 2).s).isEmpty)) (ap ((l20.drop n17).take n18) (bytesOf ((ix d14.elems i16.toNat).at 2).s)))) none) (rec (.s0 i11 i12 i13 d14 i15 (ad .i64 i16 1) n17 n18 b19 l20))) (rec (.s0 i11 i12 i13 d14 i15 (ad .i64 i16 1) n17 n18 b19 l20))) (rec (.s0 i11 i12 i13 d14 i15 (ad .i64 i16 1) n17 n18 b19 l20))) none) (K (.e0 n17 n18 b19 l20)))
 | .s1 i21 i22 i23 d24 i25 i26 n27 n28 b29 l30,rec,K=>(cond (ltI i26 i25) (cond (inb i26 d24.elems.length) (cond (eqI ((ix d24.elems i26.toNat).at 1).i i21) (cond (geI ((ix d24.elems i26.toNat).at 0).i i22) (cond (ltI ((ix d24.elems i26.toNat).at 0).i i23) (cond (mx (n28+(bytesOf ((ix d24.elems i26.toNat).at 2).s).length)) (rec (.s1 i21 i22 i23 d24 i25 (ad .i64 i26 1) 0 (n28+(bytesOf ((ix d24.elems i26.toNat).at 2).s).length) (b29||(!(bytesOf ((ix d24.elems i26.toNat).at 2).s).isEmpty)) (ap ((l30.drop n27).take n28) (bytesOf ((ix d24.elems i26.toNat).at 2).s)))) none) (rec (.s1 i21 i22 i23 d24 i25 (ad .i64 i26 1) n27 n28 b29 l30))) (rec (.s1 i21 i22 i23 d24 i25 (ad .i64 i26 1) n27 n28 b29 l30))) (rec (.s1 i21 i22 i23 d24 i25 (ad .i64 i26 1) n27 n28 b29 l30))) none) (K (.e1 n27 n28 b29 l30)))
def ex3 (k:Kont):X3→Option D
 | .e0 n17 n18 b19 l20=>k (.exit 0) ((us 9 ((.ptr 0 [] k0_)::(us 29 [])))) [(.var k0_ (.agg k0_ [(vk (.ptr 113) D.nilPtr),(.sref 1 n17 n18)])),(.row 5 true b19 l20)]
 | .e1 n27 n28 b29 l30=>k (.exit 0) ((us 9 ((.ptr 0 [] k0_)::(us 29 [])))) [(.var k0_ (.agg k0_ [(.ptr 0 [] k0_),(.sref 1 n27 n28)])),(.row 5 true b29 l30)]
def of3_0:List Leaf→Option S3
 | [.i i11,.i i12,.i i13,.d d14,.i i15,.i i16,.n n17,.n n18,.b b19,.l l20]=>some (.s0 i11 i12 i13 d14 i15 i16 n17 n18 b19 l20)
 | _=>none
def ps3_0:List PV:=((up 1 ((.d (.int .i64) (.int .i64))::(.d (.int .i64) (.int .i64))::(.d (.int .i64) (.int .i64))::(up 5 ((.ptr 0 [] k0_)::(up 2 ((.d (.slice 49) .x)::(.d (.int .i64) (.int .i64))::(.d (.int .i64) (.int .i64))::(up 24 []))))))))
def qs3_0:List PO:=[(.var k0_ (.agg k0_ [(.d (.ptr 113) .nilPtr),(.sref 1)])),(.row 5 true)]
def of3_1:List Leaf→Option S3
 | [.i i21,.i i22,.i i23,.d d24,.i i25,.i i26,.n n27,.n n28,.b b29,.l l30]=>some (.s1 i21 i22 i23 d24 i25 i26 n27 n28 b29 l30)
 | _=>none
def ps3_1:List PV:=((up 1 ((.d (.int .i64) (.int .i64))::(.d (.int .i64) (.int .i64))::(.d (.int .i64) (.int .i64))::(up 5 ((.ptr 0 [] k0_)::(up 2 ((.d (.slice 49) .x)::(.d (.int .i64) (.int .i64))::(.d (.int .i64) (.int .i64))::(up 24 []))))))))
def qs3_1:List PO:=[(.var k0_ (.agg k0_ [(.ptr 0 [] k0_),(.sref 1)])),(.row 5 true)]
def vv3:S3→List V×List AObj
 | .s0 i11 i12 i13 d14 i15 i16 n17 n18 b19 l20=>((fillVs ps3_0 [.i i11,.i i12,.i i13,.d d14,.i i15,.i i16,.n n17,.n n18,.b b19,.l l20]).1,(fillOs qs3_0 (fillVs ps3_0 [.i i11,.i i12,.i i13,.d d14,.i i15,.i i16,.n n17,.n n18,.b b19,.l l20]).2).1)
 | .s1 i21 i22 i23 d24 i25 i26 n27 n28 b29 l30=>((fillVs ps3_1 [.i i21,.i i22,.i i23,.d d24,.i i25,.i i26,.n n27,.n n28,.b b29,.l l30]).1,(fillOs qs3_1 (fillVs ps3_1 [.i i21,.i i22,.i i23,.d d24,.i i25,.i i26,.n n27,.n n28,.b b29,.l l30]).2).1)
noncomputable def su3 (M:Nat):Sum:=sumJ [1,2,3,9,12,13,14] [⟨ps3_0,qs3_0,of3_0⟩,⟨ps3_1,qs3_1,of3_1⟩] [(1056768,1)] (st3 M) ex3 M noSum
noncomputable def t (M:Nat):List Ent:=⟨117,11,0,3,su3 M⟩::[]
theorem t_ok (M:Nat):AllOk (e M) (tblOf (t M)):=AllOk.addJ (n0:=2) AllOk.nil (fun s=>(vv3 s).1) (fun s=>(vv3 s).2) (by kernel_rfl) rfl (.inl rfl) ⟨by intro ls s h;replace h:of3_0 ls=some s:=h;unfold of3_0 at h;(repeat' split at h)<;>simp at h;subst h;exact⟨by kernel_rfl,by kernel_rfl⟩,by intro ls s h;replace h:of3_1 ls=some s:=h;unfold of3_1 at h;(repeat' split at h)<;>simp at h;subst h;exact⟨by kernel_rfl,by kernel_rfl⟩,trivial⟩ (by intro s;cases s<;>kernel_rfl) (by intro s;cases s<;>kernel_rfl) (by intro s nx k;cases s<;>kernel_rfl)
def s (M:Nat) (p0:D) (p1:Int) (p2:Int) (p3:Int):Option D:=
 (goS (st3 M) M (.s0 p1 p2 p3 p0 (nI p0.elems.length) 0 0 0 false []) fun x=>match x with | .e0 n17 n18 b19 l20=>(cond (true&&((bif b19 then (decide (0<n18)) else true)&&(mx n18))) (some (dS (ofBytes ((l20.drop n17).take n18)))) none) | .e1 n27 n28 b29 l30=>(cond (true&&((bif b29 then (decide (0<n28)) else true)&&(mx n28))) (some (dS (ofBytes ((l30.drop n27).take n28)))) none))
theorem run (M:Nat) (p0:D) (p1:Int) (p2:Int) (p3:Int):callS (e M) (tblOf (t M)) 12 (.fn 117) [.d (.slice 49) p0,.d (.int .i64) (di p1),.d (.int .i64) (di p2),.d (.int .i64) (di p3)] [] (fun v H=>finish ty [9] v H)=s M p0 p1 p2 p3:=by kernel_rfl
def c:Con:={ run:=fun ds=>match ds with | [p0,p1,p2,p3]=>s FUEL p0 p1.i p2.i p3.i | _=>none,plain:=true }
theorem ok:ConOk (117,c):=mkC Tryz.f117 [(.slice 49),(.int .i64),(.int .i64),(.int .i64)] [9] (by kernel_rfl) (by kernel_rfl) (by kernel_rfl) (by kernel_rfl) allNil (allCons string_ok (allCons copyCheck_ok allNil)) (t_ok FUEL) fun a=>run FUEL a.1 a.2.1 a.2.2.1 a.2.2.2.1
end F117
namespace F204
def k0_:K:=(.struct [3,9,4])
def cons:List (Nat×Con):=[]
def exts:List (Nat×Ext):=[]
def h:List (Nat×Nat×Hint):=[(204,3,{ live:=[0,2,3,7,8],out:=some [2] })]
noncomputable def e (M:Nat):Env:=env cons exts h M
structure S3 where
 (s1:ByteArray) (i2 i3 i4 i5:Int) (s6:ByteArray) (b7:Bool)
inductive X3 where
 | e0 (s1:ByteArray) (i2 i4:Int) (r8:D)
 | e1 (s1:ByteArray) (i2 i4:Int) (r8:D)
 | e2 (s1:ByteArray) (i2 i4:Int) (r8:D)
 | e3 (i5:Int) (s6:ByteArray) (b7:Bool)
def st3 (M:Nat):S3→(S3→Option D)→(X3→Option D)→Option D
 | ⟨s1,i2,i3,i4,i5,s6,b7⟩,rec,K=>(cond (ltI i4 i3) (cond (inb i4 s1.size) (bd (if (ml .i64 7 i4)<0 then none else some (.int .i64 (shlI .i64 (cv .i64 (andI .u8 (byteAt s1 i4.toNat) 127)) (ml .i64 7 i4).toNat))) fun r8=>(cond (inb i4 s1.size) (cond (ltI (byteAt s1 i4.toNat) 128) (cond ((leI 0 (ad .i64 i4 1))&&(leI (ad .i64 i4 1) (nI s1.size))&&(leI (nI s1.size) (nI s1.size))&&(leI (nI s1.size) (nI s1.size))) (cond (leI (orI .i64 i2 r8.i) 1125899906842624) (cond (eqI i4 0) (K (.e0 s1 i2 i4 r8)) (cond (inb i4 s1.size) (K (.e1 s1 i2 i4 r8)) none)) (K (.e2 s1 i2 i4 r8))) none) (rec ⟨s1,(orI .i64 i2 r8.i),i3,(ad .i64 i4 1),i5,s6,b7⟩)) none)) none) (K (.e3 i5 s6 b7)))
def ex3 (k:Kont):X3→Option D
 | .e0 s1 i2 i4 r8=>k .ret ((us 2 ((.ptr 0 [] k0_)::(us 42 [])))) [(.var k0_ (vk k0_ (da [(di (orI .i64 i2 r8.i)),(dS (s1.extract (ad .i64 i4 1).toNat s1.size)),(db true)])))]
 | .e1 s1 i2 i4 r8=>k .ret ((us 2 ((.ptr 0 [] k0_)::(us 42 [])))) [(.var k0_ (vk k0_ (da [(di (orI .i64 i2 r8.i)),(dS (s1.extract (ad .i64 i4 1).toNat s1.size)),(db (gtI (byteAt s1 i4.toNat) 0))])))]
 | .e2 s1 i2 i4 r8=>k .ret ((us 2 ((.ptr 0 [] k0_)::(us 42 [])))) [(.var k0_ (vk k0_ (da [(di (orI .i64 i2 r8.i)),(dS (s1.extract (ad .i64 i4 1).toNat s1.size)),(db false)])))]
 | .e3 i5 s6 b7=>k (.exit 0) ((us 2 ((.ptr 0 [] k0_)::(us 42 [])))) [(.var k0_ (vk k0_ (da [(di i5),(dS s6),(db b7)])))]
def lv3:S3→List Leaf
 | ⟨s1,i2,i3,i4,i5,s6,b7⟩=>[.s s1,.i i2,.i i3,.i i4,.i i5,.s s6,.b b7]
def of3:List Leaf→Option S3
 | [.s s1,.i i2,.i i3,.i i4,.i i5,.s s6,.b b7]=>some ⟨s1,i2,i3,i4,i5,s6,b7⟩
 | _=>none
def ps3:List PV:=((.d .str .str)::(up 1 ((.ptr 0 [] k0_)::(.d (.int .i64) (.int .i64))::(up 3 ((.d (.int .i64) (.int .i64))::(.d (.int .i64) (.int .i64))::(up 36 []))))))
def qs3:List PO:=[(.var k0_ (.d k0_ (.agg [(.int .i64),.str,.bool])))]
noncomputable def t (M:Nat):List Ent:=⟨204,11,0,3,sumS [0,2,3,7,8] ps3 qs3 [] of3 (st3 M) ex3 M⟩::[]
theorem t_ok (M:Nat):AllOk (e M) (tblOf (t M)):=AllOk.addS (n0:=1) (lv:=lv3) AllOk.nil (by kernel_rfl) rfl (by intro ls s h;unfold of3 at h;(repeat' split at h)<;>simp at h;subst h;rfl) (by intro s;kernel_rfl) (by intro s;kernel_rfl) (by intro s nx k;kernel_rfl)
def s (M:Nat) (p0:ByteArray):Option D:=
 (goS (st3 M) M ⟨p0,0,(mini (nI p0.size) 8),0,0,(bs []),false⟩ fun x=>match x with | .e0 s1 i2 i4 r8=>(some (da [(di (orI .i64 i2 r8.i)),(dS (s1.extract (ad .i64 i4 1).toNat s1.size)),(db true)])) | .e1 s1 i2 i4 r8=>(some (da [(di (orI .i64 i2 r8.i)),(dS (s1.extract (ad .i64 i4 1).toNat s1.size)),(db (gtI (byteAt s1 i4.toNat) 0))])) | .e2 s1 i2 i4 r8=>(some (da [(di (orI .i64 i2 r8.i)),(dS (s1.extract (ad .i64 i4 1).toNat s1.size)),(db false)])) | .e3 i5 s6 b7=>(some (da [(di 0),(dS (bs [])),(db false)])))
theorem run (M:Nat) (p0:ByteArray):callS (e M) (tblOf (t M)) 12 (.fn 204) [.d .str (dS p0)] [] (fun v H=>finish ty [294] v H)=s M p0:=by kernel_rfl
def c:Con:={ run:=fun ds=>match ds with | [p0]=>s FUEL p0.s | _=>none,plain:=true }
theorem ok:ConOk (204,c):=mkC Tryz.f204 [.str] [294] (by kernel_rfl) (by kernel_rfl) (by kernel_rfl) (by kernel_rfl) allNil allNil (t_ok FUEL) fun a=>run FUEL a.1
end F204
namespace F205
def cons:List (Nat×Con):=[]
def exts:List (Nat×Ext):=[]
def h:List (Nat×Nat×Hint):=[]
noncomputable def e (M:Nat):Env:=env cons exts h M
def s (M:Nat) (p0:D):Option D:=
 (cond (!(p0.at 2).b) (some (D.tup [(di 0),(dS (bs [])),(db false)])) (some (D.tup [(p0.at 0),(p0.at 1),(db true)])))
theorem run (M:Nat) (p0:D):callS (e M) (tblOf []) 12 (.fn 205) [.d (.struct [3,9,4]) p0] [] (fun v H=>finish ty [3,9,4] v H)=s M p0:=by kernel_rfl
def c:Con:={ run:=fun ds=>match ds with | [p0]=>s FUEL p0 | _=>none,plain:=true }
theorem ok:ConOk (205,c):=mkC Tryz.f205 [(.struct [3,9,4])] [3,9,4] (by kernel_rfl) (by kernel_rfl) (by kernel_rfl) (by kernel_rfl) allNil allNil AllOk.nil fun a=>run FUEL a.1
end F205
namespace F153
def cons:List (Nat×Con):=[(204,F204.c),(205,F205.c)]
def exts:List (Nat×Ext):=[]
def h:List (Nat×Nat×Hint):=[]
noncomputable def e (M:Nat):Env:=env cons exts h M
def s (M:Nat) (p0:ByteArray):Option D:=
 (bd (F204.s FUEL p0) fun r1=>(bd (F205.s FUEL r1) fun r2=>(some (D.tup [(r2.at 0),(r2.at 1),(r2.at 2)]))))
theorem run (M:Nat) (p0:ByteArray):callS (e M) (tblOf []) 12 (.fn 153) [.d .str (dS p0)] [] (fun v H=>finish ty [3,9,4] v H)=s M p0:=by kernel_rfl
def c:Con:={ run:=fun ds=>match ds with | [p0]=>s FUEL p0.s | _=>none,plain:=true }
theorem ok:ConOk (153,c):=mkC Tryz.f153 [.str] [3,9,4] (by kernel_rfl) (by kernel_rfl) (by kernel_rfl) (by kernel_rfl) (allCons F204.ok (allCons F205.ok allNil)) allNil AllOk.nil fun a=>run FUEL a.1
end F153
namespace F207
def cons:List (Nat×Con):=[(153,F153.c)]
def exts:List (Nat×Ext):=[]
def h:List (Nat×Nat×Hint):=[]
noncomputable def e (M:Nat):Env:=env cons exts h M
def s (M:Nat) (p0:ByteArray) (p1:Int):Option D:=
 (bd (F153.s FUEL p0) fun r1=>(cond (!(r1.at 2).b) (some (da [(dS (bs [])),(dS (bs [])),(db false)])) (cond (gtI (r1.at 0).i (mini (nI (r1.at 1).s.size) p1)) (some (da [(dS (bs [])),(dS (bs [])),(db false)])) (cond (true&&(leI 0 (r1.at 0).i)&&(leI (r1.at 0).i (nI (r1.at 1).s.size))&&(leI (nI (r1.at 1).s.size) (nI (r1.at 1).s.size))) (cond ((leI 0 (r1.at 0).i)&&(leI (r1.at 0).i (nI (r1.at 1).s.size))&&(leI (nI (r1.at 1).s.size) (nI (r1.at 1).s.size))&&(leI (nI (r1.at 1).s.size) (nI (r1.at 1).s.size))) (some (da [(dS ((r1.at 1).s.extract 0 (r1.at 0).i.toNat)),(dS ((r1.at 1).s.extract (r1.at 0).i.toNat (r1.at 1).s.size)),(db true)])) none) none))))
theorem run (M:Nat) (p0:ByteArray) (p1:Int):callS (e M) (tblOf []) 12 (.fn 207) [.d .str (dS p0),.d (.int .i64) (di p1)] [] (fun v H=>finish ty [301] v H)=s M p0 p1:=by kernel_rfl
def c:Con:={ run:=fun ds=>match ds with | [p0,p1]=>s FUEL p0.s p1.i | _=>none,plain:=true }
theorem ok:ConOk (207,c):=mkC Tryz.f207 [.str,(.int .i64)] [301] (by kernel_rfl) (by kernel_rfl) (by kernel_rfl) (by kernel_rfl) (allCons F153.ok allNil) allNil AllOk.nil fun a=>run FUEL a.1 a.2.1
end F207
namespace F208
def cons:List (Nat×Con):=[]
def exts:List (Nat×Ext):=[]
def h:List (Nat×Nat×Hint):=[]
noncomputable def e (M:Nat):Env:=env cons exts h M
def s (M:Nat) (p0:D):Option D:=
 (cond (!(p0.at 2).b) (some (D.tup [(dS (bs [])),(dS (bs [])),(db false)])) (some (D.tup [(p0.at 0),(p0.at 1),(db true)])))
theorem run (M:Nat) (p0:D):callS (e M) (tblOf []) 12 (.fn 208) [.d (.struct [9,9,4]) p0] [] (fun v H=>finish ty [9,9,4] v H)=s M p0:=by kernel_rfl
def c:Con:={ run:=fun ds=>match ds with | [p0]=>s FUEL p0 | _=>none,plain:=true }
theorem ok:ConOk (208,c):=mkC Tryz.f208 [(.struct [9,9,4])] [9,9,4] (by kernel_rfl) (by kernel_rfl) (by kernel_rfl) (by kernel_rfl) allNil allNil AllOk.nil fun a=>run FUEL a.1
end F208
namespace F155
def cons:List (Nat×Con):=[(207,F207.c),(208,F208.c)]
def exts:List (Nat×Ext):=[]
def h:List (Nat×Nat×Hint):=[]
noncomputable def e (M:Nat):Env:=env cons exts h M
def s (M:Nat) (p0:ByteArray) (p1:Int):Option D:=
 (bd (F207.s FUEL p0 p1) fun r1=>(bd (F208.s FUEL r1) fun r2=>(some (D.tup [(r2.at 0),(r2.at 1),(r2.at 2)]))))
theorem run (M:Nat) (p0:ByteArray) (p1:Int):callS (e M) (tblOf []) 12 (.fn 155) [.d .str (dS p0),.d (.int .i64) (di p1)] [] (fun v H=>finish ty [9,9,4] v H)=s M p0 p1:=by kernel_rfl
def c:Con:={ run:=fun ds=>match ds with | [p0,p1]=>s FUEL p0.s p1.i | _=>none,plain:=true }
theorem ok:ConOk (155,c):=mkC Tryz.f155 [.str,(.int .i64)] [9,9,4] (by kernel_rfl) (by kernel_rfl) (by kernel_rfl) (by kernel_rfl) (allCons F207.ok (allCons F208.ok allNil)) allNil AllOk.nil fun a=>run FUEL a.1 a.2.1
end F155
namespace F172
def cons:List (Nat×Con):=[]
def exts:List (Nat×Ext):=[]
def h:List (Nat×Nat×Hint):=[]
noncomputable def e (M:Nat):Env:=env cons exts h M
def s (M:Nat)  : Option D:=
 (some (da [(dS (bs [99,114,101,97,116,101])),(dS (bs [97,112,112,101,110,100])),(dS (bs [115,101,97,108])),(dS (bs [101,120,116,101,110,100])),(dS (bs [104,111,108,100])),(dS (bs [114,101,108,101,97,115,101])),(dS (bs [100,101,108,101,116,101])),(dS (bs [116,105,99,107]))]))
theorem run (M:Nat)  : callS (e M) (tblOf []) 12 (.fn 172) [] [] (fun v H=>finish ty [253] v H)=s M  := by kernel_rfl
def c:Con:={ run:=fun ds=>match ds with | []=>s FUEL  | _=>none,plain:=true }
theorem ok:ConOk (172,c):=mkC Tryz.f172 [] [253] (by kernel_rfl) (by kernel_rfl) (by kernel_rfl) (by kernel_rfl) allNil allNil AllOk.nil fun _=>run FUEL
end F172
namespace F206
def cons:List (Nat×Con):=[]
def exts:List (Nat×Ext):=[]
def h:List (Nat×Nat×Hint):=[]
noncomputable def e (M:Nat):Env:=env cons exts h M
def s (M:Nat) (p0:D):Option D:=
 (cond (!(p0.at 2).b) (some (D.tup [(da (rp 32 (D.int .u8 0))),(dS (bs [])),(db false)])) (some (D.tup [(p0.at 0),(p0.at 1),(db true)])))
theorem run (M:Nat) (p0:D):callS (e M) (tblOf []) 12 (.fn 206) [.d (.struct [30,9,4]) p0] [] (fun v H=>finish ty [30,9,4] v H)=s M p0:=by kernel_rfl
def c:Con:={ run:=fun ds=>match ds with | [p0]=>s FUEL p0 | _=>none,plain:=true }
theorem ok:ConOk (206,c):=mkC Tryz.f206 [(.struct [30,9,4])] [30,9,4] (by kernel_rfl) (by kernel_rfl) (by kernel_rfl) (by kernel_rfl) allNil allNil AllOk.nil fun a=>run FUEL a.1
end F206
namespace F154
def cons:List (Nat×Con):=[(206,F206.c)]
def exts:List (Nat×Ext):=[]
def h:List (Nat×Nat×Hint):=[]
noncomputable def e (M:Nat):Env:=env cons exts h M
def s (M:Nat) (p0:ByteArray):Option D:=
 (cond (ltI (nI p0.size) 32) (bd (F206.s FUEL (da [(da (rp 32 (D.int .u8 0))),(dS (bs [])),(db false)])) fun r1=>(some (D.tup [(r1.at 0),(r1.at 1),(r1.at 2)]))) (cond (true&&true&&(leI 32 (nI p0.size))&&(leI (nI p0.size) (nI p0.size))) (cond (mx (p0.extract 0 32).size) (cond ((Nat.beq (p0.extract 0 32).size 32)&&(Nat.beq (bytesOf (p0.extract 0 32)).length 32)) (cond (true&&(leI 32 (nI p0.size))&&(leI (nI p0.size) (nI p0.size))&&(leI (nI p0.size) (nI p0.size))) (bd (F206.s FUEL (da [(D.agg (bytesOf (p0.extract 0 32))),(dS (p0.extract 32 p0.size)),(db true)])) fun r2=>(some (D.tup [(r2.at 0),(r2.at 1),(r2.at 2)]))) none) none) none) none))
theorem run (M:Nat) (p0:ByteArray):callS (e M) (tblOf []) 12 (.fn 154) [.d .str (dS p0)] [] (fun v H=>finish ty [30,9,4] v H)=s M p0:=by kernel_rfl
def c:Con:={ run:=fun ds=>match ds with | [p0]=>s FUEL p0.s | _=>none,plain:=true }
theorem ok:ConOk (154,c):=mkC Tryz.f154 [.str] [30,9,4] (by kernel_rfl) (by kernel_rfl) (by kernel_rfl) (by kernel_rfl) (allCons F206.ok allNil) allNil AllOk.nil fun a=>run FUEL a.1
end F154
namespace F173
def cons:List (Nat×Con):=[(153,F153.c),(154,F154.c),(155,F155.c)]
def exts:List (Nat×Ext):=[]
def h:List (Nat×Nat×Hint):=[]
noncomputable def e (M:Nat):Env:=env cons exts h M
def s (M:Nat) (p0:D) (p1:ByteArray):Option D:=
 (cond (isT 246 p0) (bd (F155.s FUEL p1 100) fun r1=>(some (D.tup [(D.iface 246 (r1.at 0)),(r1.at 1),(r1.at 2)]))) (cond (isT 250 p0) (bd (F154.s FUEL p1) fun r2=>(some (D.tup [(D.iface 250 (r2.at 0)),(r2.at 1),(r2.at 2)]))) (bd (F153.s FUEL p1) fun r3=>(some (D.tup [(D.iface 249 (r3.at 0)),(r3.at 1),(r3.at 2)])))))
theorem run (M:Nat) (p0:D) (p1:ByteArray):callS (e M) (tblOf []) 12 (.fn 173) [.d (.iface true) p0,.d .str (dS p1)] [] (fun v H=>finish ty [183,9,4] v H)=s M p0 p1:=by kernel_rfl
def c:Con:={ run:=fun ds=>match ds with | [p0,p1]=>s FUEL p0 p1.s | _=>none }
theorem ok:ConOk (173,c):=mkC Tryz.f173 [(.iface true),.str] [183,9,4] (by kernel_rfl) (by kernel_rfl) (by kernel_rfl) (by kernel_rfl) (allCons F153.ok (allCons F154.ok (allCons F155.ok allNil))) allNil AllOk.nil fun a=>run FUEL a.1 a.2.1
end F173
namespace F121
def k0_:K:=(.struct [28,3,9,3,3,30])
def cons:List (Nat×Con):=[(107,F107.c),(108,F108f.c),(153,F153.c),(166,F166.c),(172,F172.c),(173,F173.c)]
def exts:List (Nat×Ext):=[]
def h:List (Nat×Nat×Hint):=[(121,7,{ live:=[2,6,8,9,32,33],out:=some [2,3,4,6,8,9] })]
noncomputable def e (M:Nat):Env:=env cons exts h M
structure S7 where
 (d4 d5:D) (n6 n7:Nat) (i8 i9 i10 i11:Int) (s12:ByteArray) (i13 i14:Int) (d15:D) (b16:Bool) (l17:List D)
inductive X7 where
 | e0 (d5:D) (n6 n7:Nat) (i9:Int) (b16:Bool) (l17:List D) (r18:D)
 | e1 (d4 d5:D) (n6 n7:Nat) (i10 i11:Int) (s12:ByteArray) (i13 i14:Int) (d15:D) (b16:Bool) (l17:List D)
def st7 (M:Nat):S7→(S7→Option D)→(X7→Option D)→Option D
 | ⟨d4,d5,n6,n7,i8,i9,i10,i11,s12,i13,i14,d15,b16,l17⟩,rec,K=>(cond (ltI i9 i8) (cond (inb i9 n7) (bd (F173.s FUEL (ix l17 (n6+i9.toNat)) d4.s) fun r18=>(cond (inb i9 n7) (cond (!(r18.at 2).b) (K (.e0 d5 n6 n7 i9 b16 l17 r18)) (rec ⟨(r18.at 1),d5,n6,n7,i8,(ad .i64 i9 1),i10,i11,s12,i13,i14,d15,b16,(l17.set (n6+i9.toNat) (r18.at 0))⟩)) none)) none) (K (.e1 d4 d5 n6 n7 i10 i11 s12 i13 i14 d15 b16 l17)))
def ex7 (k:Kont):X7→Option D
 | .e0 d5 n6 n7 i9 b16 l17 r18=>k .ret ((us 2 ((.ptr 0 [] k0_)::(vS (bs []))::(vb false)::(us 1 ((vk .str (r18.at 1))::(us 1 ((vk (.int .i64) d5)::(.sref 1 n6 n7)::(us 52 [])))))))) [(.var k0_ (vk k0_ (da [(di 0),(di 0),(dS (bs [])),(di 0),(di 0),(da (rp 32 (D.int .u8 0)))]))),(.row 183 true b16 (l17.set (n6+i9.toNat) (r18.at 0)))]
 | .e1 d4 d5 n6 n7 i10 i11 s12 i13 i14 d15 b16 l17=>k (.exit 0) ((us 2 ((.ptr 0 [] k0_)::(us 3 ((vk .str d4)::(us 1 ((vk (.int .i64) d5)::(.sref 1 n6 n7)::(us 52 [])))))))) [(.var k0_ (vk k0_ (da [(di i10),(di i11),(dS s12),(di i13),(di i14),d15]))),(.row 183 true b16 l17)]
def lv7:S7→List Leaf
 | ⟨d4,d5,n6,n7,i8,i9,i10,i11,s12,i13,i14,d15,b16,l17⟩=>[.d d4,.d d5,.n n6,.n n7,.i i8,.i i9,.i i10,.i i11,.s s12,.i i13,.i i14,.d d15,.b b16,.l l17]
def of7:List Leaf→Option S7
 | [.d d4,.d d5,.n n6,.n n7,.i i8,.i i9,.i i10,.i i11,.s s12,.i i13,.i i14,.d d15,.b b16,.l l17]=>some ⟨d4,d5,n6,n7,i8,i9,i10,i11,s12,i13,i14,d15,b16,l17⟩
 | _=>none
def ps7:List PV:=((up 2 ((.ptr 0 [] k0_)::(up 3 ((.d .str .x)::(up 1 ((.d (.int .i64) .x)::(.sref 1)::(up 22 ((.d (.int .i64) (.int .i64))::(.d (.int .i64) (.int .i64))::(up 28 []))))))))))
def qs7:List PO:=[(.var k0_ (.d k0_ (.agg [(.int .i64),(.int .i64),.str,(.int .i64),(.int .i64),.x]))),(.row 183 true)]
noncomputable def t (M:Nat):List Ent:=⟨121,11,0,7,sumS [2,6,8,9,32,33] ps7 qs7 [] of7 (st7 M) ex7 M⟩::[]
theorem t_ok (M:Nat):AllOk (e M) (tblOf (t M)):=AllOk.addS (n0:=2) (lv:=lv7) AllOk.nil (by kernel_rfl) rfl (by intro ls s h;unfold of7 at h;(repeat' split at h)<;>simp at h;subst h;rfl) (by intro s;kernel_rfl) (by intro s;kernel_rfl) (by intro s nx k;kernel_rfl)
def s (M:Nat) (p0:ByteArray):Option D:=
 (bd (F153.s FUEL p0) fun r1=>(cond (!(r1.at 2).b) (some (D.tup [(da [(di 0),(di 0),(dS (bs [])),(di 0),(di 0),(da (rp 32 (D.int .u8 0)))]),(dS (bs [])),(db false)])) (bd (F172.s FUEL) fun r2=>(cond (geI (r1.at 0).i 8) (some (D.tup [(da [(di 0),(di 0),(dS (bs [])),(di 0),(di 0),(da (rp 32 (D.int .u8 0)))]),(dS (bs [])),(db false)])) (bd (F108f.s FUEL (da [(r1.at 0),(di 0),(dS (bs [])),(di 0),(di 0),(da (rp 32 (D.int .u8 0)))])) fun r3=>(goS (st7 M) M ⟨(r1.at 1),(r1.at 0),0,r3.elems.length,(nI r3.elems.length),0,0,0,(bs []),0,0,(da (rp 32 (D.int .u8 0))),r3.nn,r3.elems⟩ fun x=>match x with | .e0 d5 n6 n7 i9 b16 l17 r18=>(some (D.tup [(da [(di 0),(di 0),(dS (bs [])),(di 0),(di 0),(da (rp 32 (D.int .u8 0)))]),(dS (bs [])),(db false)])) | .e1 d4 d5 n6 n7 i10 i11 s12 i13 i14 d15 b16 l17=>(bd (F166.s FUEL d5.i (dl b16 ((l17.drop n6).take n7))) fun r19=>(bd (F107.s FUEL r19) fun r20=>(cond (!r20.b) (some (D.tup [(da [(di 0),(di 0),(dS (bs [])),(di 0),(di 0),(da (rp 32 (D.int .u8 0)))]),(dS (bs [])),(db false)])) (some (D.tup [r19,d4,(db true)])))))))))))
theorem run (M:Nat) (p0:ByteArray):callS (e M) (tblOf (t M)) 12 (.fn 121) [.d .str (dS p0)] [] (fun v H=>finish ty [32,9,4] v H)=s M p0:=by kernel_rfl
def c:Con:={ run:=fun ds=>match ds with | [p0]=>s FUEL p0.s | _=>none,plain:=true }
theorem ok:ConOk (121,c):=mkC Tryz.f121 [.str] [32,9,4] (by kernel_rfl) (by kernel_rfl) (by kernel_rfl) (by kernel_rfl) (allCons F107.ok (allCons F108f.ok (allCons F153.ok (allCons F166.ok (allCons F172.ok (allCons F173.ok allNil)))))) allNil (t_ok FUEL) fun a=>run FUEL a.1
end F121
namespace F70
def cons:List (Nat×Con):=[]
def exts:List (Nat×Ext):=[]
def h:List (Nat×Nat×Hint):=[(70,4,{ live:=[0,1,12,13],out:=some [4] })]
noncomputable def e (M:Nat):Env:=env cons exts h M
structure S4 where
 (d1 d2:D) (i3 i4:Int)
inductive X4 where
 | e0
 | e1
def st4 (M:Nat):S4→(S4→Option D)→(X4→Option D)→Option D
 | ⟨d1,d2,i3,i4⟩,rec,K=>(cond (ltI i4 i3) (cond (inb i4 d1.elems.length) (cond (inb i4 d2.elems.length) (bd (match D.eqv ty eqDepth (ix d1.elems i4.toNat) (ix d2.elems i4.toNat) (.struct [3,3,9]) with | some z=>some (.bool (!z)) | none=>none) fun r5=>(cond r5.b (K .e0) (rec ⟨d1,d2,i3,(ad .i64 i4 1)⟩))) none) none) (K .e1))
def ex4 (k:Kont):X4→Option D
 | .e0  => k .ret ((us 4 ((vb false)::(us 21 [])))) []
 | .e1  => k (.exit 0) ((us 26 [])) []
def lv4:S4→List Leaf
 | ⟨d1,d2,i3,i4⟩=>[.d d1,.d d2,.i i3,.i i4]
def of4:List Leaf→Option S4
 | [.d d1,.d d2,.i i3,.i i4]=>some ⟨d1,d2,i3,i4⟩
 | _=>none
def ps4:List PV:=((.d (.slice 49) .x)::(.d (.slice 49) .x)::(up 10 ((.d (.int .i64) (.int .i64))::(.d (.int .i64) (.int .i64))::(up 12 []))))
def qs4:List PO:=[]
noncomputable def t (M:Nat):List Ent:=⟨70,11,0,4,sumS [0,1,12,13] ps4 qs4 [] of4 (st4 M) ex4 M⟩::[]
theorem t_ok (M:Nat):AllOk (e M) (tblOf (t M)):=AllOk.addS (n0:=0) (lv:=lv4) AllOk.nil (by kernel_rfl) rfl (by intro ls s h;unfold of4 at h;(repeat' split at h)<;>simp at h;subst h;rfl) (by intro s;kernel_rfl) (by intro s;kernel_rfl) (by intro s nx k;kernel_rfl)
def s (M:Nat) (p0:D) (p1:D):Option D:=
 (cond (neI (nI p0.elems.length) (nI p1.elems.length)) (some (db false)) (goS (st4 M) M ⟨p0,p1,(nI p0.elems.length),0⟩ fun x=>match x with | .e0  => (some (db false)) | .e1  => (some (db true))))
theorem run (M:Nat) (p0:D) (p1:D):callS (e M) (tblOf (t M)) 12 (.fn 70) [.d (.slice 49) p0,.d (.slice 49) p1] [] (fun v H=>finish ty [4] v H)=s M p0 p1:=by kernel_rfl
def c:Con:={ run:=fun ds=>match ds with | [p0,p1]=>s FUEL p0 p1 | _=>none,plain:=true }
theorem ok:ConOk (70,c):=mkC Tryz.f70 [(.slice 49),(.slice 49)] [4] (by kernel_rfl) (by kernel_rfl) (by kernel_rfl) (by kernel_rfl) allNil allNil (t_ok FUEL) fun a=>run FUEL a.1 a.2.1
end F70
namespace F22
def k0_:K:=(.struct [22,3,3])
def k1_:K:=(.struct [3,9,9,4,3,66])
def k2_:K:=(.struct [9])
def cons:List (Nat×Con):=[(17,F17.c),(70,F70.c),(117,F117.c),(121,F121.c),(153,F153.c),(155,F155.c)]
def exts:List (Nat×Ext):=[]
def h:List (Nat×Nat×Hint):=[(69,5,{ live:=[0,2,3,4,6,26,27],rows:=[(1052675,68),(3,32)],out:=some [0,2,3,6] }),(69,12,{ live:=[0,2,3,4,6,7,26,27,60,61],rows:=[(1073159,9)],out:=some [0,2,3,4,6,7,26,27] }),(69,19,{ live:=[2,3,4,82,83],rows:=[(3,32)],out:=some [2,3] })]
noncomputable def z (M:Nat):Env:=env cons exts h M
noncomputable def bod0:Code:=Tryz.f22.body.getD .skip
noncomputable def gbod0:Code:=Tryz.f68.body.getD .skip
noncomputable def cA:Code:=cHd bod0
noncomputable def dO:Array Oper:=cOp (cHd (cTl bod0))
noncomputable def cO:Array Oper:=cOp (cHd (cTl (cTl bod0)))
noncomputable def cB:Code:=cTl (cTl (cTl bod0))
noncomputable def rO:Array Oper:=cOp (cHd gbod0)
noncomputable def mk:Oper:=dO.toList.getD 0 default
noncomputable def df:Oper:=dO.toList.getD 1 default
noncomputable def pre:List Oper:=cO.toList.take 1
noncomputable def co:Oper:=cO.toList.getD 1 default
noncomputable def post:List Oper:=cO.toList.drop 2
noncomputable def yd:Dfr:=⟨12,22,68,16,rO.toList,cTl gbod0,((.ptr 2 [] .bool)::(.ptr 0 [] (.struct [22,3,3]))::(.ptr 1 [] (.slice 32))::[]),((us 4 ((.ptr 0 [] (.struct [22,3,3]))::(.ptr 1 [] (.slice 32))::(.ptr 2 [] .bool)::(us 22 [])))),[4,5,6],8,Tryz.f22.results.toList,[24,25,4]⟩
def q0_:PO:=(.var k0_ (.agg k0_ [(.sref 5),(.d (.int .i64) .x),(.d (.int .i64) .x)]))
def q1_:PO:=(.var k0_ (.d k0_ (.agg [.slice,(.int .i64),(.int .i64)])))
def q2_:PO:=(.var k2_ (.d k2_ (.agg [.x])))
def q3_:PO:=(.var (.slice 32) (.d (.slice 32) .slice))
noncomputable def e (M:Nat):Env:=panE (z M) yd
structure S69_12 where
 (d35:D) (n36 n37:Nat) (d38 d39:D) (i40:Int) (d41:D) (i42:Int) (b43:Bool) (l44:List D) (i45 i46:Int) (b47:Bool) (l48:List D) (b49:Bool) (n50 n51:Nat) (d52 d53 d54:D) (b55:Bool) (l56:List D) (b57:Bool) (l58:List D) (d59 d60:D) (s61:ByteArray) (b62:Bool) (d63:D) (n64 n65:Nat) (s66:ByteArray) (b67:Bool) (l68:List D)
inductive X69_12 where
 | e0 (d35:D) (n36 n37:Nat) (d38 d39:D) (i40:Int) (b43:Bool) (l44:List D) (i45 i46:Int) (b47:Bool) (l48:List D) (b49:Bool) (n50 n51:Nat) (d52 d53 d54:D) (b55:Bool) (l56:List D) (b57:Bool) (l58:List D) (d59 d60:D) (s61:ByteArray) (b62:Bool) (d63:D) (n64 n65:Nat) (s66:ByteArray) (b67:Bool) (l68:List D)
def st69_12 (M:Nat):S69_12→(S69_12→Option D)→(X69_12→Option D)→Option D
 | ⟨d35,n36,n37,d38,d39,i40,d41,i42,b43,l44,i45,i46,b47,l48,b49,n50,n51,d52,d53,d54,b55,l56,b57,l58,d59,d60,s61,b62,d63,n64,n65,s66,b67,l68⟩,rec,K=>(cond (ltI i42 d41.i) (bd (F155.s FUEL d54.s 100) fun r69=>(cond (!(r69.at 2).b) (some (D.tup [(da [(dl false []),(di 0),(di 0)]),(dl false []),(db false)])) (cond (((Nat.beq n64 n64)&&(Nat.beq n65 n65))&&true) (cond (mx (n65+1)) (rec ⟨d35,n36,n37,d38,d39,i40,d41,(ad .i64 i42 1),b43,l44,i45,i46,b47,l48,b49,n50,n51,d52,d53,(r69.at 1),b55,l56,b57,l58,d59,d60,s61,b62,d63,0,(n65+1),s66,(b67||true),(ap ((l68.drop n64).take n65) [(r69.at 0)])⟩) none) none))) (K (.e0 d35 n36 n37 d38 d39 i40 b43 l44 i45 i46 b47 l48 b49 n50 n51 d52 d53 d54 b55 l56 b57 l58 d59 d60 s61 b62 d63 n64 n65 s66 b67 l68)))
def ex69_12 (k:Kont):X69_12→Option D
 | .e0 d35 n36 n37 d38 d39 i40 b43 l44 i45 i46 b47 l48 b49 n50 n51 d52 d53 d54 b55 l56 b57 l58 d59 d60 s61 b62 d63 n64 n65 s66 b67 l68=>k (.exit 2) ((vk (.slice 49) d35)::(us 1 ((.ptr 3 [] k0_)::(.sref 6 n36 n37)::(.ptr 4 [] k2_)::(us 1 ((vk (.int .i64) d38)::(.ptr 7 [] k1_)::(us 18 ((vk (.int .i64) d39)::(vi i40)::(us 79 [])))))))) [(.var k0_ (vk k0_ (da [(dl b43 l44),(di i45),(di i46)]))),(.var (.slice 32) (vk (.slice 32) (dl b47 l48))),(.var .bool (vb b49)),(.var k0_ (.agg k0_ [(.sref 5 n50 n51),(vk (.int .i64) d52),(vk (.int .i64) d53)])),(.var k2_ (vk k2_ (da [d54]))),(.row 68 true b55 l56),(.row 32 true b57 l58),(.var k1_ (.agg k1_ [(vk (.int .i64) d59),(vk .str d60),(vS s61),(vb b62),(vk (.int .i64) d63),(.sref 9 n64 n65)])),(.var k2_ (vk k2_ (da [(dS s66)]))),(.row 9 true b67 l68)]
def lv69_12:S69_12→List Leaf
 | ⟨d35,n36,n37,d38,d39,i40,d41,i42,b43,l44,i45,i46,b47,l48,b49,n50,n51,d52,d53,d54,b55,l56,b57,l58,d59,d60,s61,b62,d63,n64,n65,s66,b67,l68⟩=>[.d d35,.n n36,.n n37,.d d38,.d d39,.i i40,.d d41,.i i42,.b b43,.l l44,.i i45,.i i46,.b b47,.l l48,.b b49,.n n50,.n n51,.d d52,.d d53,.d d54,.b b55,.l l56,.b b57,.l l58,.d d59,.d d60,.s s61,.b b62,.d d63,.n n64,.n n65,.s s66,.b b67,.l l68]
def of69_12:List Leaf→Option S69_12
 | .d d35::.n n36::.n n37::.d d38::.d d39::.i i40::.d d41::.i i42::.b b43::.l l44::.i i45::.i i46::.b b47::.l l48::.b b49::.n n50::.n n51::.d d52::.d d53::.d d54::.b b55::.l l56::.b b57::.l l58::.d d59::.d d60::.s s61::.b b62::rest2=>(match rest2 with
  | [.d d63,.n n64,.n n65,.s s66,.b b67,.l l68]=>some ⟨d35,n36,n37,d38,d39,i40,d41,i42,b43,l44,i45,i46,b47,l48,b49,n50,n51,d52,d53,d54,b55,l56,b57,l58,d59,d60,s61,b62,d63,n64,n65,s66,b67,l68⟩
  | _=>none)
 | _=>none
def ps69_12:List PV:=((.d (.slice 49) .x)::(up 1 ((.ptr 3 [] k0_)::(.sref 6)::(.ptr 4 [] k2_)::(up 1 ((.d (.int .i64) .x)::(.ptr 7 [] k1_)::(up 18 ((.d (.int .i64) .x)::(.d (.int .i64) (.int .i64))::(up 32 ((.d (.int .i64) .x)::(.d (.int .i64) (.int .i64))::(up 45 []))))))))))
def qs69_12:List PO:=[q1_,q3_,(.var .bool (.d .bool .bool)),q0_,q2_,(.row 68 true),(.row 32 true),(.var k1_ (.agg k1_ [(.d (.int .i64) .x),(.d .str .x),(.d .str .str),(.d .bool .bool),(.d (.int .i64) .x),(.sref 9)])),(.var k2_ (.d k2_ (.agg [.str]))),(.row 9 true)]
noncomputable def t1 (M:Nat):List Ent:=⟨69,11,3,12,sumS [0,2,3,4,6,7,26,27,60,61] ps69_12 qs69_12 [(1073159,9)] of69_12 (st69_12 M) ex69_12 M⟩::[]
theorem t1_ok (M:Nat):AllOk (e M) (tblOf (t1 M)):=AllOk.addS (n0:=10) (lv:=lv69_12) AllOk.nil (by kernel_rfl) rfl (by intro ls s h;unfold of69_12 at h;(repeat' split at h)<;>simp at h;subst h;rfl) (by intro s;kernel_rfl) (by intro s;kernel_rfl) (by intro s nx k;kernel_rfl)
structure S69_5 where
 (d6:D) (n7 n8:Nat) (d9 d10:D) (i11:Int) (b12:Bool) (l13:List D) (i14 i15:Int) (b16:Bool) (l17:List D) (b18:Bool) (n19 n20:Nat) (d21 d22 d23:D) (b24:Bool) (l25:List D) (b26:Bool) (l27:List D)
inductive X69_5 where
 | e0 (d6:D) (n7 n8:Nat) (d9:D) (b12:Bool) (l13:List D) (i14 i15:Int) (b16:Bool) (l17:List D) (b18:Bool) (n19 n20:Nat) (d21 d22 d23:D) (b24:Bool) (l25:List D) (b26:Bool) (l27:List D)
def st69_5 (M:Nat):S69_5→(S69_5→Option D)→(X69_5→Option D)→Option D
 | ⟨d6,n7,n8,d9,d10,i11,b12,l13,i14,i15,b16,l17,b18,n19,n20,d21,d22,d23,b24,l25,b26,l27⟩,rec,K=>(cond (ltI i11 d10.i) (bd (F153.s FUEL d23.s) fun r28=>(cond (!(r28.at 2).b) (some (D.tup [(da [(dl false []),(di 0),(di 0)]),(dl false []),(db false)])) (cond (gtI (r28.at 0).i 134217728) (some (D.tup [(da [(dl false []),(di 0),(di 0)]),(dl false []),(db false)])) (bd (F155.s FUEL (r28.at 1).s 100) fun r29=>(cond (!(r29.at 2).b) (some (D.tup [(da [(dl false []),(di 0),(di 0)]),(dl false []),(db false)])) (bd (F153.s FUEL (r29.at 1).s) fun r30=>(cond (!(r30.at 2).b) (some (D.tup [(da [(dl false []),(di 0),(di 0)]),(dl false []),(db false)])) (cond (gtI (r30.at 0).i 1) (some (D.tup [(da [(dl false []),(di 0),(di 0)]),(dl false []),(db false)])) (bd (F153.s FUEL (r30.at 1).s) fun r31=>(cond (!(r31.at 2).b) (some (D.tup [(da [(dl false []),(di 0),(di 0)]),(dl false []),(db false)])) (cond (gtI (r31.at 0).i 1125899906842624) (some (D.tup [(da [(dl false []),(di 0),(di 0)]),(dl false []),(db false)])) (bd (F117.s FUEL d6 (r28.at 0).i (ml .i64 4096 (r28.at 0).i) (ml .i64 4096 (ad .i64 (r28.at 0).i 1))) fun r32=>(bd (F153.s FUEL (r31.at 1).s) fun r33=>(cond (!(r33.at 2).b) (some (D.tup [(da [(dl false []),(di 0),(di 0)]),(dl false []),(db false)])) (cond (gtI (r33.at 0).i 600) (some (D.tup [(da [(dl false []),(di 0),(di 0)]),(dl false []),(db false)])) (cond (gtI (r33.at 0).i (nI r32.s.size)) (some (D.tup [(da [(dl false []),(di 0),(di 0)]),(dl false []),(db false)])) (cond (true&&(leI 0 (r33.at 0).i)&&(leI (r33.at 0).i (nI r32.s.size))&&(leI (nI r32.s.size) (nI r32.s.size))) (cond ((leI 0 (r33.at 0).i)&&(leI (r33.at 0).i (nI r32.s.size))&&(leI (nI r32.s.size) (nI r32.s.size))&&(leI (nI r32.s.size) (nI r32.s.size))) (bd (F153.s FUEL (r33.at 1).s) fun r34=>(cond (!(r34.at 2).b) (some (D.tup [(da [(dl false []),(di 0),(di 0)]),(dl false []),(db false)])) (cond (gtI (r34.at 0).i 4) (some (D.tup [(da [(dl false []),(di 0),(di 0)]),(dl false []),(db false)])) (goS (st69_12 M) M ⟨d6,n7,n8,d9,d10,i11,(r34.at 0),0,b12,l13,i14,i15,b16,l17,b18,n19,n20,d21,d22,(r34.at 1),b24,l25,b26,l27,(r28.at 0),(r29.at 0),(r32.s.extract 0 (r33.at 0).i.toNat),(eqI (r30.at 0).i 1),(r31.at 0),0,0,(r32.s.extract (r33.at 0).i.toNat r32.s.size),false,[]⟩ fun x=>match x with | .e0 d35 n36 n37 d38 d39 i40 b43 l44 i45 i46 b47 l48 b49 n50 n51 d52 d53 d54 b55 l56 b57 l58 d59 d60 s61 b62 d63 n64 n65 s66 b67 l68=>(cond (mx (n51+1)) (rec ⟨d35,n36,n37,d38,d39,(ad .i64 i40 1),b43,l44,i45,i46,b47,l48,b49,0,(n51+1),d52,d53,d54,(b55||true),(ap ((l56.drop n50).take n51) [(da [d59,d60,(dS s61),(db b62),d63,(dl b67 ((l68.drop n64).take n65))])]),b57,l58⟩) none))))) none) none))))))))))))))))) (K (.e0 d6 n7 n8 d9 b12 l13 i14 i15 b16 l17 b18 n19 n20 d21 d22 d23 b24 l25 b26 l27)))
def ex69_5 (k:Kont):X69_5→Option D
 | .e0 d6 n7 n8 d9 b12 l13 i14 i15 b16 l17 b18 n19 n20 d21 d22 d23 b24 l25 b26 l27=>k (.exit 0) ((vk (.slice 49) d6)::(us 1 ((.ptr 3 [] k0_)::(.sref 6 n7 n8)::(us 2 ((vk (.int .i64) d9)::(us 100 [])))))) [(.var k0_ (vk k0_ (da [(dl b12 l13),(di i14),(di i15)]))),(.var (.slice 32) (vk (.slice 32) (dl b16 l17))),(.var .bool (vb b18)),(.var k0_ (.agg k0_ [(.sref 5 n19 n20),(vk (.int .i64) d21),(vk (.int .i64) d22)])),(.var k2_ (vk k2_ (da [d23]))),(.row 68 true b24 l25),(.row 32 true b26 l27)]
def lv69_5:S69_5→List Leaf
 | ⟨d6,n7,n8,d9,d10,i11,b12,l13,i14,i15,b16,l17,b18,n19,n20,d21,d22,d23,b24,l25,b26,l27⟩=>[.d d6,.n n7,.n n8,.d d9,.d d10,.i i11,.b b12,.l l13,.i i14,.i i15,.b b16,.l l17,.b b18,.n n19,.n n20,.d d21,.d d22,.d d23,.b b24,.l l25,.b b26,.l l27]
def of69_5:List Leaf→Option S69_5
 | [.d d6,.n n7,.n n8,.d d9,.d d10,.i i11,.b b12,.l l13,.i i14,.i i15,.b b16,.l l17,.b b18,.n n19,.n n20,.d d21,.d d22,.d d23,.b b24,.l l25,.b b26,.l l27]=>some ⟨d6,n7,n8,d9,d10,i11,b12,l13,i14,i15,b16,l17,b18,n19,n20,d21,d22,d23,b24,l25,b26,l27⟩
 | _=>none
def ps69_5:List PV:=((.d (.slice 49) .x)::(up 1 ((.ptr 3 [] k0_)::(.sref 6)::(.ptr 4 [] k2_)::(up 1 ((.d (.int .i64) .x)::(up 19 ((.d (.int .i64) .x)::(.d (.int .i64) (.int .i64))::(up 79 []))))))))
def qs69_5:List PO:=[q1_,q3_,(.var .bool (.d .bool .bool)),q0_,q2_,(.row 68 true),(.row 32 true)]
noncomputable def t2 (M:Nat):List Ent:=⟨69,11,3,5,sumS [0,2,3,4,6,26,27] ps69_5 qs69_5 [(1052675,5),(3,6)] of69_5 (st69_5 M) ex69_5 M⟩::t1 M
theorem t2_ok (M:Nat):AllOk (e M) (tblOf (t2 M)):=AllOk.addS (n0:=7) (lv:=lv69_5) (t1_ok M) (by kernel_rfl) rfl (by intro ls s h;unfold of69_5 at h;(repeat' split at h)<;>simp at h;subst h;rfl) (by intro s;kernel_rfl) (by intro s;kernel_rfl) (by intro s nx k;kernel_rfl)
structure S69_19 where
 (n71 n72:Nat) (d73:D) (i74:Int) (b75:Bool) (l76:List D) (i77 i78:Int) (b79:Bool) (l80:List D) (b81:Bool) (n82 n83:Nat) (d84 d85 d86:D) (b87:Bool) (l88:List D) (b89:Bool) (l90:List D) (d91:D)
inductive X69_19 where
 | e0 (n71 n72:Nat) (b75:Bool) (l76:List D) (i77 i78:Int) (b79:Bool) (l80:List D) (b81:Bool) (n82 n83:Nat) (d84 d85 d86:D) (b87:Bool) (l88:List D) (b89:Bool) (l90:List D) (d91:D)
def st69_19 (M:Nat):S69_19→(S69_19→Option D)→(X69_19→Option D)→Option D
 | ⟨n71,n72,d73,i74,b75,l76,i77,i78,b79,l80,b81,n82,n83,d84,d85,d86,b87,l88,b89,l90,d91⟩,rec,K=>(cond (ltI i74 d73.i) (bd (F155.s FUEL d91.s 400) fun r92=>(cond (!(r92.at 2).b) (some (D.tup [(da [(dl false []),(di 0),(di 0)]),(dl false []),(db false)])) (bd (F121.s FUEL (r92.at 0).s) fun r93=>(cond (!(r93.at 2).b) (some (D.tup [(da [(dl false []),(di 0),(di 0)]),(dl false []),(db false)])) (cond (!(eqS (r93.at 1).s (bs []))) (some (D.tup [(da [(dl false []),(di 0),(di 0)]),(dl false []),(db false)])) (cond (mx (n72+1)) (rec ⟨0,(n72+1),d73,(ad .i64 i74 1),b75,l76,i77,i78,b79,l80,b81,n82,n83,d84,d85,d86,b87,l88,(b89||true),(ap ((l90.drop n71).take n72) [(r93.at 0)]),(r92.at 1)⟩) none)))))) (K (.e0 n71 n72 b75 l76 i77 i78 b79 l80 b81 n82 n83 d84 d85 d86 b87 l88 b89 l90 d91)))
def ex69_19 (k:Kont):X69_19→Option D
 | .e0 n71 n72 b75 l76 i77 i78 b79 l80 b81 n82 n83 d84 d85 d86 b87 l88 b89 l90 d91=>k (.exit 4) ((us 2 ((.ptr 3 [] k0_)::(.sref 6 n71 n72)::(us 103 [])))) [(.var k0_ (vk k0_ (da [(dl b75 l76),(di i77),(di i78)]))),(.var (.slice 32) (vk (.slice 32) (dl b79 l80))),(.var .bool (vb b81)),(.var k0_ (.agg k0_ [(.sref 5 n82 n83),(vk (.int .i64) d84),(vk (.int .i64) d85)])),(.var k2_ (vk k2_ (da [d86]))),(.row 68 true b87 l88),(.row 32 true b89 l90),(.var k2_ (vk k2_ (da [d91])))]
def lv69_19:S69_19→List Leaf
 | ⟨n71,n72,d73,i74,b75,l76,i77,i78,b79,l80,b81,n82,n83,d84,d85,d86,b87,l88,b89,l90,d91⟩=>[.n n71,.n n72,.d d73,.i i74,.b b75,.l l76,.i i77,.i i78,.b b79,.l l80,.b b81,.n n82,.n n83,.d d84,.d d85,.d d86,.b b87,.l l88,.b b89,.l l90,.d d91]
def of69_19:List Leaf→Option S69_19
 | [.n n71,.n n72,.d d73,.i i74,.b b75,.l l76,.i i77,.i i78,.b b79,.l l80,.b b81,.n n82,.n n83,.d d84,.d d85,.d d86,.b b87,.l l88,.b b89,.l l90,.d d91]=>some ⟨n71,n72,d73,i74,b75,l76,i77,i78,b79,l80,b81,n82,n83,d84,d85,d86,b87,l88,b89,l90,d91⟩
 | _=>none
def ps69_19:List PV:=((up 2 ((.ptr 3 [] k0_)::(.sref 6)::(.ptr 7 [] k2_)::(up 77 ((.d (.int .i64) .x)::(.d (.int .i64) (.int .i64))::(up 23 []))))))
def qs69_19:List PO:=[q1_,q3_,(.var .bool (.d .bool .bool)),q0_,q2_,(.row 68 true),(.row 32 true),q2_]
noncomputable def t (M:Nat):List Ent:=⟨69,11,3,19,sumS [2,3,4,82,83] ps69_19 qs69_19 [(3,6)] of69_19 (st69_19 M) ex69_19 M⟩::t2 M
theorem t_ok (M:Nat):AllOk (e M) (tblOf (t M)):=AllOk.addS (n0:=8) (lv:=lv69_19) (t2_ok M) (by kernel_rfl) rfl (by intro ls s h;unfold of69_19 at h;(repeat' split at h)<;>simp at h;subst h;rfl) (by intro s;kernel_rfl) (by intro s;kernel_rfl) (by intro s nx k;kernel_rfl)
def s (M:Nat) (p0:D) (p1:Int):Option D:=
 (bd (F117.s FUEL p0 0 0 1000) fun r1=>(bd (F153.s FUEL r1.s) fun r2=>(cond (!(r2.at 2).b) (some (D.tup [(da [(dl false []),(di 0),(di 0)]),(dl false []),(db false)])) (cond (gtI (r2.at 0).i 1125899906842624) (some (D.tup [(da [(dl false []),(di 0),(di 0)]),(dl false []),(db false)])) (bd (F153.s FUEL (r2.at 1).s) fun r3=>(cond (!(r3.at 2).b) (some (D.tup [(da [(dl false []),(di 0),(di 0)]),(dl false []),(db false)])) (cond (gtI (r3.at 0).i 1125899906842624) (some (D.tup [(da [(dl false []),(di 0),(di 0)]),(dl false []),(db false)])) (bd (F153.s FUEL (r3.at 1).s) fun r4=>(cond (!(r4.at 2).b) (some (D.tup [(da [(dl false []),(di 0),(di 0)]),(dl false []),(db false)])) (cond (gtI (r4.at 0).i 12) (some (D.tup [(da [(dl false []),(di 0),(di 0)]),(dl false []),(db false)])) (bd (F153.s FUEL (r4.at 1).s) fun r5=>(cond (!(r5.at 2).b) (some (D.tup [(da [(dl false []),(di 0),(di 0)]),(dl false []),(db false)])) (cond (gtI (r5.at 0).i 400) (some (D.tup [(da [(dl false []),(di 0),(di 0)]),(dl false []),(db false)])) (goS (st69_5 M) M ⟨p0,0,0,(r5.at 0),(r4.at 0),0,false,[],0,0,false,[],false,0,0,(r2.at 0),(r3.at 0),(r5.at 1),false,[],false,[]⟩ fun x=>match x with | .e0 d6 n7 n8 d9 b12 l13 i14 i15 b16 l17 b18 n19 n20 d21 d22 d23 b24 l25 b26 l27=>(bd (F117.s FUEL d6 0 1000 4096) fun r70=>(goS (st69_19 M) M ⟨n7,n8,d9,0,b12,l13,i14,i15,b16,l17,b18,n19,n20,d21,d22,d23,b24,l25,b26,l27,r70⟩ fun x=>match x with | .e0 n71 n72 b75 l76 i77 i78 b79 l80 b81 n82 n83 d84 d85 d86 b87 l88 b89 l90 d91=>(bd (F17.s FUEL (da [(dl b87 ((l88.drop n82).take n83)),d84,d85]) (dl b89 ((l90.drop n71).take n72)) p1) fun r94=>(bdB (r94.at 1) fun g95=>(cond g95 (bd (F70.s FUEL (r94.at 0) p0) fun r96=>(cond (!r96.b) (some (D.tup [(da [(dl false []),(di 0),(di 0)]),(dl false []),(db false)])) (some (D.tup [(da [(dl b87 ((l88.drop n82).take n83)),d84,d85]),(dl b89 ((l90.drop n71).take n72)),r96])))) (some (D.tup [(da [(dl false []),(di 0),(di 0)]),(dl false []),(db false)])))))))))))))))))))))
theorem run (M:Nat) (p0:D) (p1:Int):getM (z M) yd (callS (e M) (tblOf (t M)) 12) 1 2 cA cB mk pre co post ([.d (.slice 49) p0,.d (.int .i64) (di p1)]++List.replicate 27 .undef)=s M p0 p1:=by kernel_rfl
def c:Con:={ run:=fun ds=>match ds with | [p0,p1]=>s FUEL p0 p1.i | _=>none }
theorem fnG:Tryz.prog.funcs[68]? = some Tryz.f68:=by kernel_rfl
theorem fnF:Tryz.prog.funcs[22]? = some Tryz.f22:=by kernel_rfl
theorem ok:ConOk (22,c):=by
 intro fn hfn
 obtain rfl:Tryz.f22=fn:=Option.some.inj (fnF.symm.trans hfn)
 refine contract_defer (P:=Tryz.prog) (E:=z FUEL) (Y:=yd) (T:=tblOf (t FUEL)) (d1:=1) (d2:=2) (A:=cA) (B:=cB) (dOps:=dO) (cOps:=cO) (mk:=mk) (df:=df) (co:=co) (pre:=pre) (post:=post) (gn:=Tryz.f68) (e1:=0) (rOps:=rO) (o0:=rO.toList.getD 0 default) (os:=rO.toList.drop 1) (envOk (allCons F17.ok (allCons F70.ok (allCons F117.ok (allCons F121.ok (allCons F153.ok (allCons F155.ok allNil)))))) allNil) rfl hgl (t_ok FUEL) fnF fnF (by kernel_rfl) (by kernel_rfl) ⟨by kernel_rfl,by kernel_rfl,by kernel_rfl⟩ (by kernel_rfl) (by kernel_rfl) fnG fnG (by kernel_rfl) rfl (by kernel_rfl) (by kernel_rfl) (by kernel_rfl) ⟨#[],#[],by kernel_rfl,by kernel_rfl,rfl⟩ (by kernel_rfl) (by kernel_rfl) rfl (by kernel_rfl) (fun ds r hh hr=>?_)
 have hk:Tryz.f22.params.toList.map ty=[(.slice 49),(.int .i64)]:=by kernel_rfl
 replace hh:D.hass ty ds (Tryz.f22.params.toList.map ty):=hh
 rw[hk] at hh
 obtain⟨a,rfl⟩:=hass_args hh
 exact(run FUEL a.1 a.2.1).trans hr
end F22
end Go.AM.SY
