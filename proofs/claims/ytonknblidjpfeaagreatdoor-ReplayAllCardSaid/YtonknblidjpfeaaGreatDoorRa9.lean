/- Part 9 of the proof: the abstract machine, what the functions compute, and plain laws over that. -/
import Derived.Test.YtonknblidjpfeaaGreatDoorRa8
set_option linter.all false
set_option linter.unusedSimpArgs false
set_option linter.unusedVariables false
set_option linter.unusedSectionVars false
namespace Go.AM
open Go
def plainC:Code→Bool
 | .skip=>true
 | .ret=>true
 | .seq a b=>plainC a&&plainC b
 | .cond _ a b=>plainC a&&plainC b
 | .region _ _ o=>!o
 | _=>false
def noInl:Inl D:=fun _ _ _ _=>none
theorem noInl_le (inl:Inl D):InlLe noInl inl:=fun _ _ _ _ _ _=>Le.none
section
variable {E:Env} {f:Nat} {tbl:Nat→Option Sum}
theorem evT_mono {inl inl':Inl D} (hi:InlLe inl inl'):∀(c:Code),plainC c=true→∀(regs:List V) (H:List AObj) (k k':Kont),(∀e r h,Le (k e r h) (k' e r h))→Le (evT false E inl f tbl c regs H k) (evT false E inl' f tbl c regs H k'):=by
 intro c
 induction c with
 | skip=>intro _ regs H k k' h;exact h .normal regs H
 | ret=>intro _ regs H k k' h;exact h .ret regs H
 | seq a b iha ihb=>
  intro hc regs H k k' h
  simp only[plainC,Bool.and_eq_true] at hc
  simp only[evT]
  refine iha hc.1 _ _ _ _ fun e r h'=>?_
  cases e with
  | normal=>exact ihb hc.2 _ _ _ _ h
  | ret=>exact h _ _ _
  | exit id=>exact h _ _ _
 | cond c a b iha ihb=>
  intro hc regs H k k' h
  simp only[plainC,Bool.and_eq_true] at hc
  simp only[evT]
  split
  ·split
   ·exact iha hc.1 _ _ _ _ h
   ·exact ihb hc.2 _ _ _ _ h
  ·exact Le.refl _
 | region id ops o=>
  intro hc regs H k k' h
  cases o with
  | true=>simp[plainC] at hc
  | false=>
   simp only[evT]
   exact evOps_le hi (fun r h'=>h .normal r h') _ _ _
 | _=>intro hc;simp[plainC] at hc
theorem evT_assoc {rd:Bool} {inl:Inl D} (a b c:Code) (regs:List V) (H:List AObj) (k:Kont):evT rd E inl f tbl (.seq a (.seq b c)) regs H k=evT rd E inl f tbl (.seq (.seq a b) c) regs H k:=by
 simp only[evT]
theorem stage {inl:Inl D} {A C:Code} {regs:List V} {H:List AObj} {k K1:Kont} {X:Option D} (hp:plainC A=true) (h1:evT false E noInl f tbl A regs H K1=X)
  (h2:∀e r h,Le (K1 e r h) (match e with | .normal=>evT false E inl f tbl C r h k | .ret=>k .ret r h | .exit id=>k (.exit id) r h)):Le X (evT false E inl f tbl (.seq A C) regs H k):=by
 subst h1
 simp only[evT]
 exact evT_mono (noInl_le inl) A hp _ _ _ _ h2
end
def lookS:List (Nat×V)→Nat→V→V
 | [],_,v=>v
 | p::l,i,v=>bif Nat.beq i p.1 then p.2 else lookS l i v
def SL (n:Nat) (f:Nat→V) (l:List (Nat×V)):List V:=(List.range n).map fun i=>lookS l i (f i)
theorem lookS_of (r:List V) (i:Nat):∀l:List (Nat×V),(∀p∈l,r.getD p.1 .undef=p.2)→lookS l i (r.getD i .undef)=r.getD i .undef
 | [],_=>rfl
 | p::l,h=>by
  simp only[lookS]
  cases hb:Nat.beq i p.1
  ·exact lookS_of r i l (fun q hq=>h q (List.mem_cons_of_mem _ hq))
  ·rw[Nat.eq_of_beq_eq_true hb];exact(h p (by simp)).symm
theorem SL_of {n:Nat} {r:List V} (hr:r.length=n) {l:List (Nat×V)} (h:∀p∈l,r.getD p.1 .undef=p.2):r=SL n (fun i=>r.getD i .undef) l:=by
 refine List.ext_getElem (by simp[SL,hr]) ?_
 intro i h1 h2
 simp only[SL,List.getElem_map,List.getElem_range]
 rw[lookS_of r i l h,List.getD_eq_getElem?_getD,List.getElem?_eq_getElem h1];rfl
open Classical in
noncomputable def gate {α:Type} (n:Nat) (Lv:α→List V) (Hv:α→List AObj) (T:α→Option D) (e:AExit) (m:Nat) (L:List V) (h:List AObj):Option D:=
 if hx:∃a,e = .normal∧m=n∧L=Lv a∧h=Hv a then T hx.choose else none
theorem gate_eq {α:Type} {n:Nat} {Lv:α→List V} {Hv:α→List AObj} {T:α→Option D} (inj:∀a b,Lv a=Lv b→Hv a=Hv b→a=b) (a:α):gate n Lv Hv T .normal n (Lv a) (Hv a)=T a:=by
 have hx:∃b,AExit.normal=AExit.normal∧n=n∧Lv a=Lv b∧Hv a=Hv b:=⟨a,rfl,rfl,rfl,rfl⟩
 unfold gate
 rw[dif_pos hx]
 have:=hx.choose_spec
 rw[←inj a _ this.2.2.1 this.2.2.2]
theorem gate_le {α:Type} {n:Nat} {Lv:α→List V} {Hv:α→List AObj} {T:α→Option D} {e:AExit} {m:Nat} {L:List V} {h:List AObj} {X:Option D}
  (h0:∀a,e = .normal→m=n→L=Lv a→h=Hv a→Le (T a) X):Le (gate n Lv Hv T e m L h) X:=by
 unfold gate
 split
 ·rename_i hx
  obtain⟨h1,h2,h3,h4⟩:=hx.choose_spec
  exact h0 _ h1 h2 h3 h4
 ·exact Le.none
end Go.AM
namespace Go.AM.SZ
open Go Go.AM Go.Proofs Go.RowKit
namespace F33
def cons:List (Nat×Con):=[]
def exts:List (Nat×Ext):=[]
def h:List (Nat×Nat×Hint):=[]
noncomputable def e (M:Nat):Env:=env cons exts h M
def s (M:Nat) (p0:Int):Option D:=
 (some (da [(di p0),(di 0),(dS (bs [])),(da [(di 0),(dS (bs [])),(dS (bs [])),(db false),(di 0),(dl false [])]),(dl false [])]))
theorem run (M:Nat) (p0:Int):callS (e M) (tblOf []) 12 (.fn 33) [.d (.int .i64) (di p0)] [] (fun v H=>finish ty [41] v H)=s M p0:=by kernel_rfl
def c:Con:={ run:=fun ds=>match ds with | [p0]=>s FUEL p0.i | _=>none }
theorem ok:ConOk (33,c):=mkC Tryz.f33 [(.int .i64)] [41] (by kernel_rfl) (by kernel_rfl) (by kernel_rfl) (by kernel_rfl) allNil allNil AllOk.nil fun a=>run FUEL a.1
end F33
namespace F25
def k0_:K:=(.struct [25,3,3])
def k1_:K:=(.struct [3,9,9,4,3,37])
def cons:List (Nat×Con):=[]
def exts:List (Nat×Ext):=[]
def h:List (Nat×Nat×Hint):=[(45,2,{ live:=[0,1,7,8] })]
noncomputable def e (M:Nat):Env:=env cons exts h M
structure S45_2 where
 (d1:D) (i2 i3:Int) (d4:D) (s5:ByteArray)
inductive X45_2 where
 | e0 (d1:D) (i2 i3:Int) (d4:D) (s5:ByteArray)
 | e1 (d1:D) (i2 i3:Int) (d4:D) (s5:ByteArray)
def st45_2 (M:Nat):S45_2→(S45_2→Option D)→(X45_2→Option D)→Option D
 | ⟨d1,i2,i3,d4,s5⟩,rec,K=>(cond (ltI i3 i2) (cond (inb i3 d1.elems.length) (cond (eqS ((ix d1.elems i3.toNat).at 1).s s5) (K (.e0 d1 i2 i3 d4 s5)) (rec ⟨d1,i2,(ad .i64 i3 1),d4,s5⟩)) none) (K (.e1 d1 i2 i3 d4 s5)))
def ex45_2 (k:Kont):X45_2→Option D
 | .e0 d1 i2 i3 d4 s5=>k .ret ((vk (.slice 39) d1)::(.func (.func 46) [] [(.ptr 1 [] .str)])::(us 2 ((vi i3)::(vi i3)::(us 1 ((vi i2)::(vi i3)::(vb (ltI i3 i2))::(vi i3)::(.func (.func 46) [] [(.ptr 1 [] .str)])::(vk (.slice 39) d1)::(vi i3)::(.cptr k1_ (ix d1.elems i3.toNat))::(vk k1_ (ix d1.elems i3.toNat))::(vb (eqS ((ix d1.elems i3.toNat).at 1).s s5))::(vi i3)::(us 1 [])))))) [(.var k0_ (vk k0_ d4)),(.var .str (vS s5)),(.var k1_ (vk k1_ (ix d1.elems i3.toNat)))]
 | .e1 d1 i2 i3 d4 s5=>k (.exit 0) ((vk (.slice 39) d1)::(.func (.func 46) [] [(.ptr 1 [] .str)])::(us 5 ((vi i2)::(vi i3)::(vb (ltI i3 i2))::(us 9 [])))) [(.var k0_ (vk k0_ d4)),(.var .str (vS s5))]
def lv45_2:S45_2→List Leaf
 | ⟨d1,i2,i3,d4,s5⟩=>[.d d1,.i i2,.i i3,.d d4,.s s5]
def of45_2:List Leaf→Option S45_2
 | [.d d1,.i i2,.i i3,.d d4,.s s5]=>some ⟨d1,i2,i3,d4,s5⟩
 | _=>none
def ps45_2:List PV:=((.d (.slice 39) .x)::(.func 46 [] [(.ptr 1 [] .str)])::(up 5 ((.d (.int .i64) (.int .i64))::(.d (.int .i64) (.int .i64))::(up 10 []))))
def qs45_2:List PO:=[(.var k0_ (.d k0_ .x)),(.var .str (.d .str .str))]
noncomputable def t (M:Nat):List Ent:=⟨45,10,2,2,sumS [0,1,7,8] ps45_2 qs45_2 [] of45_2 (st45_2 M) ex45_2 M⟩::[]
theorem t_ok (M:Nat):AllOk (e M) (tblOf (t M)):=AllOk.addS (n0:=2) (lv:=lv45_2) AllOk.nil (by kernel_rfl) rfl (by intro ls s h;unfold of45_2 at h;(repeat' split at h)<;>simp at h;subst h;rfl) (by intro s;kernel_rfl) (by intro s;kernel_rfl) (by intro s nx k;kernel_rfl)
def s (M:Nat) (p0:D) (p1:ByteArray):Option D:=
 (goS (st45_2 M) M ⟨(p0.at 0),(nI (p0.at 0).elems.length),0,p0,p1⟩ fun x=>match x with | .e0 d1 i2 i3 d4 s5=>(some (di i3)) | .e1 d1 i2 i3 d4 s5=>(some (di (-1))))
theorem run (M:Nat) (p0:D) (p1:ByteArray):callS (e M) (tblOf (t M)) 12 (.fn 25) [.d (.struct [25,3,3]) p0,.d .str (dS p1)] [] (fun v H=>finish ty [3] v H)=s M p0 p1:=by kernel_rfl
def c:Con:={ run:=fun ds=>match ds with | [p0,p1]=>s FUEL p0 p1.s | _=>none,plain:=true }
theorem ok:ConOk (25,c):=mkC Tryz.f25 [(.struct [25,3,3]),.str] [3] (by kernel_rfl) (by kernel_rfl) (by kernel_rfl) (by kernel_rfl) allNil allNil (t_ok FUEL) fun a=>run FUEL a.1 a.2.1
end F25
namespace F101
def cons:List (Nat×Con):=[]
def exts:List (Nat×Ext):=[]
def h:List (Nat×Nat×Hint):=[]
noncomputable def e (M:Nat):Env:=env cons exts h M
def s (M:Nat) (p0:Int):Option D:=
 (cond (geI p0 1) (some (db (leI p0 1099511627776))) (some (db false)))
theorem run (M:Nat) (p0:Int):callS (e M) (tblOf []) 12 (.fn 101) [.d (.int .i64) (di p0)] [] (fun v H=>finish ty [4] v H)=s M p0:=by kernel_rfl
def c:Con:={ run:=fun ds=>match ds with | [p0]=>s FUEL p0.i | _=>none,plain:=true }
theorem ok:ConOk (101,c):=mkC Tryz.f101 [(.int .i64)] [4] (by kernel_rfl) (by kernel_rfl) (by kernel_rfl) (by kernel_rfl) allNil allNil AllOk.nil fun a=>run FUEL a.1
end F101
namespace F106
def cons:List (Nat×Con):=[(70,F70.c),(101,F101.c)]
def exts:List (Nat×Ext):=[]
def h:List (Nat×Nat×Hint):=[]
noncomputable def e (M:Nat):Env:=env cons exts h M
def s (M:Nat) (p0:Int) (p1:ByteArray):Option D:=
 (bd (F70.s FUEL p1) fun r1=>(cond (!r1.b) (some (D.tup [(da [(di 0),(dS (bs [])),(dS (bs [])),(db false),(di 0),(dl false [])]),(di 2)])) (bd (F101.s FUEL p0) fun r2=>(cond (!r2.b) (some (D.tup [(da [(di 0),(dS (bs [])),(dS (bs [])),(db false),(di 0),(dl false [])]),(di 1)])) (some (D.tup [(da [(di p0),(dS p1),(dS (bs [])),(db false),(di 0),(dl false [])]),(di 0)]))))))
theorem run (M:Nat) (p0:Int) (p1:ByteArray):callS (e M) (tblOf []) 12 (.fn 106) [.d (.int .i64) (di p0),.d .str (dS p1)] [] (fun v H=>finish ty [39,36] v H)=s M p0 p1:=by kernel_rfl
def c:Con:={ run:=fun ds=>match ds with | [p0,p1]=>s FUEL p0.i p1.s | _=>none }
theorem ok:ConOk (106,c):=mkC Tryz.f106 [(.int .i64),.str] [39,36] (by kernel_rfl) (by kernel_rfl) (by kernel_rfl) (by kernel_rfl) (allCons F70.ok (allCons F101.ok allNil)) allNil AllOk.nil fun a=>run FUEL a.1 a.2.1
end F106
namespace F107
def cons:List (Nat×Con):=[]
def exts:List (Nat×Ext):=[]
def h:List (Nat×Nat×Hint):=[]
noncomputable def e (M:Nat):Env:=env cons exts h M
def s (M:Nat) (p0:D):Option D:=
 (cond (!p0.nn) (some (.slice false [])) (cond (mx p0.elems.length) (cond ((decide (p0.elems.length=p0.elems.length))&&true) (some (.slice true p0.elems)) none) none))
theorem run (M:Nat) (p0:D):callS (e M) (tblOf []) 12 (.fn 107) [.d (.slice 39) p0] [] (fun v H=>finishFresh ty [25] v H)=s M p0:=by kernel_rfl
def c:Con:={ run:=fun ds=>match ds with | [p0]=>s FUEL p0 | _=>none,fresh:=true }
theorem ok:ConOk (107,c):=mkF Tryz.f107 [(.slice 39)] [25] (by kernel_rfl) (by kernel_rfl) (by kernel_rfl) allNil allNil AllOk.nil fun a=>run FUEL a.1
end F107
namespace F148
def cons:List (Nat×Con):=[]
def exts:List (Nat×Ext):=[]
def h:List (Nat×Nat×Hint):=[]
noncomputable def e (M:Nat):Env:=env cons exts h M
def s (M:Nat) (p0:D) (p1:ByteArray):Option D:=
 (cond (p0.at 3).b (some (D.tup [p0,(di 5)])) (cond (eqS p1 (bs [])) (some (D.tup [p0,(di 1)])) (cond (gtI (ad .i64 (nI (p0.at 2).s.size) (nI p1.size)) 600) (some (D.tup [p0,(di 10)])) (bd (cat (p0.at 2).s p1) fun r1=>(some (D.tup [(D.agg (p0.parts.set 2 r1)),(di 0)]))))))
theorem run (M:Nat) (p0:D) (p1:ByteArray):callS (e M) (tblOf []) 12 (.fn 148) [.d (.struct [3,9,9,4,3,37]) p0,.d .str (dS p1)] [] (fun v H=>finish ty [39,36] v H)=s M p0 p1:=by kernel_rfl
def c:Con:={ run:=fun ds=>match ds with | [p0,p1]=>s FUEL p0 p1.s | _=>none }
theorem ok:ConOk (148,c):=mkC Tryz.f148 [(.struct [3,9,9,4,3,37]),.str] [39,36] (by kernel_rfl) (by kernel_rfl) (by kernel_rfl) (by kernel_rfl) allNil allNil AllOk.nil fun a=>run FUEL a.1 a.2.1
end F148
namespace F138
def cons:List (Nat×Con):=[]
def exts:List (Nat×Ext):=[]
def h:List (Nat×Nat×Hint):=[]
noncomputable def e (M:Nat):Env:=env cons exts h M
def s (M:Nat)  : Option D:=
 (some (dl true [(D.tup [(di 1),(D.iface 189 (D.fn 148))]),(D.tup [(di 4),(D.iface 189 (D.fn 81))]),(D.tup [(di 5),(D.iface 189 (D.fn 83))]),(D.tup [(di 2),(D.iface 191 (D.fn 76))]),(D.tup [(di 3),(D.iface 191 (D.fn 79))]),(D.tup [(di 6),(D.iface 188 (D.fn 85))])]))
theorem run (M:Nat)  : callS (e M) (tblOf []) 12 (.fn 138) [] [] (fun v H=>finishFresh ty [186] v H)=s M  := by kernel_rfl
def c:Con:={ run:=fun ds=>match ds with | []=>s FUEL  | _=>none,fresh:=true }
theorem ok:ConOk (138,c):=mkF Tryz.f138 [] [186] (by kernel_rfl) (by kernel_rfl) (by kernel_rfl) allNil allNil AllOk.nil fun _=>run FUEL
end F138
namespace F130
def cons:List (Nat×Con):=[]
def exts:List (Nat×Ext):=[]
def h:List (Nat×Nat×Hint):=[(130,2,{ live:=[0,3],out:=some [0,2] })]
noncomputable def e (M:Nat):Env:=env cons exts h M
structure S2 where
 (i1 i2:Int)
inductive X2 where
 | e0 (i1:Int)
 | e1 (i1:Int)
def st2 (M:Nat):S2→(S2→Option D)→(X2→Option D)→Option D
 | ⟨i1,i2⟩,rec,K=>(cond (leI (ml .i64 i2 i2) i1) (bd (if i2=0 then none else some (.int .i64 (remI i1 i2))) fun r3=>(cond (eqI r3.i 0) (K (.e0 i1)) (rec ⟨i1,(ad .i64 i2 1)⟩))) (K (.e1 i1)))
def ex2 (k:Kont):X2→Option D
 | .e0 i1=>k .ret ((vi i1)::(us 1 ((vb false)::(us 14 [])))) []
 | .e1 i1=>k (.exit 0) ((vi i1)::(us 16 [])) []
def lv2:S2→List Leaf
 | ⟨i1,i2⟩=>[.i i1,.i i2]
def of2:List Leaf→Option S2
 | [.i i1,.i i2]=>some ⟨i1,i2⟩
 | _=>none
def ps2:List PV:=((.d (.int .i64) (.int .i64))::(up 2 ((.d (.int .i64) (.int .i64))::(up 13 []))))
def qs2:List PO:=[]
noncomputable def t (M:Nat):List Ent:=⟨130,11,0,2,sumS [0,3] ps2 qs2 [] of2 (st2 M) ex2 M⟩::[]
theorem t_ok (M:Nat):AllOk (e M) (tblOf (t M)):=AllOk.addS (n0:=0) (lv:=lv2) AllOk.nil (by kernel_rfl) rfl (by intro ls s h;unfold of2 at h;(repeat' split at h)<;>simp at h;subst h;rfl) (by intro s;kernel_rfl) (by intro s;kernel_rfl) (by intro s nx k;kernel_rfl)
def s (M:Nat) (p0:Int):Option D:=
 (goS (st2 M) M ⟨p0,2⟩ fun x=>match x with | .e0 i1=>(some (db false)) | .e1 i1=>(some (db (gtI i1 1))))
theorem run (M:Nat) (p0:Int):callS (e M) (tblOf (t M)) 12 (.fn 130) [.d (.int .i64) (di p0)] [] (fun v H=>finish ty [4] v H)=s M p0:=by kernel_rfl
def c:Con:={ run:=fun ds=>match ds with | [p0]=>s FUEL p0.i | _=>none,plain:=true }
theorem ok:ConOk (130,c):=mkC Tryz.f130 [(.int .i64)] [4] (by kernel_rfl) (by kernel_rfl) (by kernel_rfl) (by kernel_rfl) allNil allNil (t_ok FUEL) fun a=>run FUEL a.1
end F130
namespace F153
def cons:List (Nat×Con):=[]
def exts:List (Nat×Ext):=[]
def h:List (Nat×Nat×Hint):=[]
noncomputable def e (M:Nat):Env:=env cons exts h M
def s (M:Nat) (p0:Int) (p1:Int):Option D:=
 (some (D.tup [(D.int .u64 (ad .u64 (ad .u64 (ml .u64 (shrI .u64 p0 32) (shrI .u64 p1 32)) (shrI .u64 (ad .u64 (ml .u64 (shrI .u64 p0 32) (andI .u64 p1 4294967295)) (shrI .u64 (ml .u64 (andI .u64 p0 4294967295) (andI .u64 p1 4294967295)) 32)) 32)) (shrI .u64 (ad .u64 (andI .u64 (ad .u64 (ml .u64 (shrI .u64 p0 32) (andI .u64 p1 4294967295)) (shrI .u64 (ml .u64 (andI .u64 p0 4294967295) (andI .u64 p1 4294967295)) 32)) 4294967295) (ml .u64 (andI .u64 p0 4294967295) (shrI .u64 p1 32))) 32))),(D.int .u64 (ml .u64 p0 p1))]))
theorem run (M:Nat) (p0:Int) (p1:Int):callS (e M) (tblOf []) 12 (.fn 153) [.d (.int .u64) (D.int .u64 p0),.d (.int .u64) (D.int .u64 p1)] [] (fun v H=>finish ty [174,174] v H)=s M p0 p1:=by kernel_rfl
def c:Con:={ run:=fun ds=>match ds with | [p0,p1]=>s FUEL p0.i p1.i | _=>none,plain:=true }
theorem ok:ConOk (153,c):=mkC Tryz.f153 [(.int .u64),(.int .u64)] [174,174] (by kernel_rfl) (by kernel_rfl) (by kernel_rfl) (by kernel_rfl) allNil allNil AllOk.nil fun a=>run FUEL a.1 a.2.1
end F153
namespace F145
def cons:List (Nat×Con):=[(153,F153.c)]
def exts:List (Nat×Ext):=[]
def h:List (Nat×Nat×Hint):=[]
noncomputable def e (M:Nat):Env:=env cons exts h M
def s (M:Nat) (p0:Int) (p1:Int) (p2:Int):Option D:=
 (bd (F153.s FUEL p0 p0) fun r1=>(cond (eqI p2 2) (cond (ltI (r1.at 0).i p1) (some (db true)) (cond (eqI (r1.at 0).i p1) (some (db (eqI (r1.at 1).i 0))) (some (db false)))) (bd (F153.s FUEL (r1.at 1).i p0) fun r2=>(bd (F153.s FUEL (r1.at 0).i p0) fun r3=>(cond (Nat.ble 0 1) (cond (ltI (orI .u64 (shlI .u64 (ad .u64 (r3.at 0).i ((((r2.at 0).i.toNat+(r3.at 1).i.toNat+0) / 18446744073709551616:Nat):Int)) 32) (shrI .u64 ((((r2.at 0).i.toNat+(r3.at 1).i.toNat+0)%18446744073709551616:Nat):Int) 32)) p1) (some (db true)) (cond (eqI (orI .u64 (shlI .u64 (ad .u64 (r3.at 0).i ((((r2.at 0).i.toNat+(r3.at 1).i.toNat+0) / 18446744073709551616:Nat):Int)) 32) (shrI .u64 ((((r2.at 0).i.toNat+(r3.at 1).i.toNat+0)%18446744073709551616:Nat):Int) 32)) p1) (cond (eqI (cv .u32 ((((r2.at 0).i.toNat+(r3.at 1).i.toNat+0)%18446744073709551616:Nat):Int)) 0) (some (db (eqI (r2.at 1).i 0))) (some (db false))) (some (db false)))) none)))))
theorem run (M:Nat) (p0:Int) (p1:Int) (p2:Int):callS (e M) (tblOf []) 12 (.fn 145) [.d (.int .u64) (D.int .u64 p0),.d (.int .u64) (D.int .u64 p1),.d (.int .i64) (di p2)] [] (fun v H=>finish ty [4] v H)=s M p0 p1 p2:=by kernel_rfl
def c:Con:={ run:=fun ds=>match ds with | [p0,p1,p2]=>s FUEL p0.i p1.i p2.i | _=>none,plain:=true }
theorem ok:ConOk (145,c):=mkC Tryz.f145 [(.int .u64),(.int .u64),(.int .i64)] [4] (by kernel_rfl) (by kernel_rfl) (by kernel_rfl) (by kernel_rfl) (allCons F153.ok allNil) allNil AllOk.nil fun a=>run FUEL a.1 a.2.1 a.2.2.1
end F145
namespace F131
def cons:List (Nat×Con):=[(145,F145.c)]
def exts:List (Nat×Ext):=[]
def h:List (Nat×Nat×Hint):=[(131,3,{ live:=[0,1,5,6],out:=some [5] })]
noncomputable def e (M:Nat):Env:=env cons exts h M
structure S3 where
 (i1 i2 i3 i4:Int)
inductive X3 where
 | e0 (i3:Int)
def st3 (M:Nat):S3→(S3→Option D)→(X3→Option D)→Option D
 | ⟨i1,i2,i3,i4⟩,rec,K=>(cond (gtI i4 0) (bd (F145.s FUEL (orI .u64 i3 i4) i1 i2) fun r5=>(cond r5.b (rec ⟨i1,i2,(orI .u64 i3 i4),(shrI .u64 i4 1)⟩) (rec ⟨i1,i2,i3,(shrI .u64 i4 1)⟩))) (K (.e0 i3)))
def ex3 (k:Kont):X3→Option D
 | .e0 i3=>k (.exit 0) ((us 5 ((vk (.int .u64) (D.int .u64 i3))::(us 16 [])))) []
def lv3:S3→List Leaf
 | ⟨i1,i2,i3,i4⟩=>[.i i1,.i i2,.i i3,.i i4]
def of3:List Leaf→Option S3
 | [.i i1,.i i2,.i i3,.i i4]=>some ⟨i1,i2,i3,i4⟩
 | _=>none
def ps3:List PV:=((.d (.int .u64) (.int .u64))::(.d (.int .i64) (.int .i64))::(up 3 ((.d (.int .u64) (.int .u64))::(.d (.int .u64) (.int .u64))::(up 15 []))))
def qs3:List PO:=[]
noncomputable def t (M:Nat):List Ent:=⟨131,11,0,3,sumS [0,1,5,6] ps3 qs3 [] of3 (st3 M) ex3 M⟩::[]
theorem t_ok (M:Nat):AllOk (e M) (tblOf (t M)):=AllOk.addS (n0:=0) (lv:=lv3) AllOk.nil (by kernel_rfl) rfl (by intro ls s h;unfold of3 at h;(repeat' split at h)<;>simp at h;subst h;rfl) (by intro s;kernel_rfl) (by intro s;kernel_rfl) (by intro s nx k;kernel_rfl)
def s (M:Nat) (p0:Int) (p1:Int):Option D:=
 (goS (st3 M) M ⟨p0,p1,0,137438953472⟩ fun x=>match x with | .e0 i3=>(some (D.int .u32 (cv .u32 i3))))
theorem run (M:Nat) (p0:Int) (p1:Int):callS (e M) (tblOf (t M)) 12 (.fn 131) [.d (.int .u64) (D.int .u64 p0),.d (.int .i64) (di p1)] [] (fun v H=>finish ty [139] v H)=s M p0 p1:=by kernel_rfl
def c:Con:={ run:=fun ds=>match ds with | [p0,p1]=>s FUEL p0.i p1.i | _=>none,plain:=true }
theorem ok:ConOk (131,c):=mkC Tryz.f131 [(.int .u64),(.int .i64)] [139] (by kernel_rfl) (by kernel_rfl) (by kernel_rfl) (by kernel_rfl) (allCons F145.ok allNil) allNil (t_ok FUEL) fun a=>run FUEL a.1 a.2.1
end F131
namespace F87
def cons:List (Nat×Con):=[(130,F130.c),(131,F131.c)]
def exts:List (Nat×Ext):=[]
def h:List (Nat×Nat×Hint):=[(87,3,{ live:=[0,1,2,3] })]
noncomputable def e (M:Nat):Env:=env cons exts h M
structure S3 where
 (i15 i16:Int) (d17 d18:D)
inductive X3 where
 | e0 (i15 i16:Int) (d17 d18:D)
def st3 (M:Nat):S3→(S3→Option D)→(X3→Option D)→Option D
 | ⟨i15,i16,d17,d18⟩,rec,K=>(cond (ltI i15 64) (bd (F130.s FUEL i16) fun r19=>(cond (!r19.b) (rec ⟨i15,(ad .i64 i16 1),d17,d18⟩) (bd (F131.s FUEL (cv .u64 i16) 3) fun r20=>(cond (inb i15 64) (cond (ltI i15 8) (bd (F131.s FUEL (cv .u64 i16) 2) fun r21=>(cond (inb i15 8) (rec ⟨(ad .i64 i15 1),(ad .i64 i16 1),(D.agg (d17.parts.set i15.toNat r21)),(D.agg (d18.parts.set i15.toNat r20))⟩) none)) (rec ⟨(ad .i64 i15 1),(ad .i64 i16 1),d17,(D.agg (d18.parts.set i15.toNat r20))⟩)) none)))) (K (.e0 i15 i16 d17 d18)))
def ex3 (k:Kont):X3→Option D
 | .e0 i15 i16 d17 d18=>k (.exit 0) ((.ptr 0 [] (.array 8 139))::(.ptr 1 [] (.array 64 139))::(vi i15)::(vi i16)::(vi i15)::(vb (ltI i15 64))::(us 21 [])) [(.var (.array 8 139) (vk (.array 8 139) d17)),(.var (.array 64 139) (vk (.array 64 139) d18))]
def lv3:S3→List Leaf
 | ⟨i15,i16,d17,d18⟩=>[.i i15,.i i16,.d d17,.d d18]
def of3:List Leaf→Option S3
 | [.i i15,.i i16,.d d17,.d d18]=>some ⟨i15,i16,d17,d18⟩
 | _=>none
def ps3:List PV:=((.ptr 0 [] (.array 8 139))::(.ptr 1 [] (.array 64 139))::(.d (.int .i64) (.int .i64))::(.d (.int .i64) (.int .i64))::(up 23 []))
def qs3:List PO:=[(.var (.array 8 139) (.d (.array 8 139) .x)),(.var (.array 64 139) (.d (.array 64 139) .x))]
noncomputable def t (M:Nat):List Ent:=⟨87,11,0,3,sumS [0,1,2,3] ps3 qs3 [] of3 (st3 M) ex3 M⟩::[]
theorem t_ok (M:Nat):AllOk (e M) (tblOf (t M)):=AllOk.addS (n0:=2) (lv:=lv3) AllOk.nil (by kernel_rfl) rfl (by intro ls s h;unfold of3 at h;(repeat' split at h)<;>simp at h;subst h;rfl) (by intro s;kernel_rfl) (by intro s;kernel_rfl) (by intro s nx k;kernel_rfl)
def s (M:Nat)  : Option D:=
 (goS (st3 M) M ⟨0,2,(da (rp 8 (D.int .u32 0))),(da (rp 64 (D.int .u32 0)))⟩ fun x=>match x with | .e0 i15 i16 d17 d18=>(some (D.tup [d17,d18])))
theorem run (M:Nat)  : callS (e M) (tblOf (t M)) 12 (.fn 87) [] [] (fun v H=>finish ty [140,141] v H)=s M  := by kernel_rfl
def c:Con:={ run:=fun ds=>match ds with | []=>s FUEL  | _=>none,plain:=true }
theorem ok:ConOk (87,c):=mkC Tryz.f87 [] [140,141] (by kernel_rfl) (by kernel_rfl) (by kernel_rfl) (by kernel_rfl) (allCons F130.ok (allCons F131.ok allNil)) allNil (t_ok FUEL) fun _=>run FUEL
end F87
namespace F88
def cons:List (Nat×Con):=[]
def exts:List (Nat×Ext):=[]
def h:List (Nat×Nat×Hint):=[(88,2,{ live:=[0,3],rows:=[(3,5)] }),(88,6,{ live:=[3,4,5],rows:=[(3,5)] })]
noncomputable def e (M:Nat):Env:=env cons exts h M
structure S2 where
 (s1:ByteArray) (n2 n3:Nat) (b4:Bool) (l5:List D)
inductive X2 where
 | e0 (s1:ByteArray) (n2 n3:Nat) (b4:Bool) (l5:List D)
def st2 (M:Nat):S2→(S2→Option D)→(X2→Option D)→Option D
 | ⟨s1,n2,n3,b4,l5⟩,rec,K=>(cond (neI (remI (nI n3) 64) 56) (cond (mx (n3+1)) (rec ⟨s1,0,(n3+1),(b4||true),(ap ((l5.drop n2).take n3) [(D.int .u8 0)])⟩) none) (K (.e0 s1 n2 n3 b4 l5)))
def ex2 (k:Kont):X2→Option D
 | .e0 s1 n2 n3 b4 l5=>k (.exit 0) ((vS s1)::(us 2 ((.sref 1 n2 n3)::(us 6 ((.sref 1 n2 n3)::(vi (nI n3))::(vi (remI (nI n3) 64))::(vb (neI (remI (nI n3) 64) 56))::(us 21 [])))))) [.dead,(.row 5 true b4 l5)]
def lv2:S2→List Leaf
 | ⟨s1,n2,n3,b4,l5⟩=>[.s s1,.n n2,.n n3,.b b4,.l l5]
def of2:List Leaf→Option S2
 | [.s s1,.n n2,.n n3,.b b4,.l l5]=>some ⟨s1,n2,n3,b4,l5⟩
 | _=>none
def ps2:List PV:=((.d .str .str)::(up 2 ((.sref 1)::(up 31 []))))
def qs2:List PO:=[.dead,(.row 5 true)]
noncomputable def t1 (M:Nat):List Ent:=⟨88,11,0,2,sumS [0,3] ps2 qs2 [(3,1)] of2 (st2 M) ex2 M⟩::[]
theorem t1_ok (M:Nat):AllOk (e M) (tblOf (t1 M)):=AllOk.addS (n0:=2) (lv:=lv2) AllOk.nil (by kernel_rfl) rfl (by intro ls s h;unfold of2 at h;(repeat' split at h)<;>simp at h;subst h;rfl) (by intro s;kernel_rfl) (by intro s;kernel_rfl) (by intro s nx k;kernel_rfl)
structure S6 where
 (n6 n7:Nat) (i8 i9:Int) (b10:Bool) (l11:List D)
inductive X6 where
 | e0 (n6 n7:Nat) (i8 i9:Int) (b10:Bool) (l11:List D)
def st6 (M:Nat):S6→(S6→Option D)→(X6→Option D)→Option D
 | ⟨n6,n7,i8,i9,b10,l11⟩,rec,K=>(cond (geI i9 0) (bd (if (ml .i64 8 i9)<0 then none else some (.int .u64 (shrI .u64 i8 (ml .i64 8 i9).toNat))) fun r12=>(cond (mx (n7+1)) (rec ⟨0,(n7+1),i8,(sb .i64 i9 1),(b10||true),(ap ((l11.drop n6).take n7) [(D.int .u8 (cv .u8 r12.i))])⟩) none)) (K (.e0 n6 n7 i8 i9 b10 l11)))
def ex6 (k:Kont):X6→Option D
 | .e0 n6 n7 i8 i9 b10 l11=>k (.exit 2) ((us 3 ((.sref 1 n6 n7)::(vk (.int .u64) (D.int .u64 i8))::(vi i9)::(us 15 ((vi i9)::(vb (geI i9 0))::(us 12 [])))))) [.dead,(.row 5 true b10 l11)]
def lv6:S6→List Leaf
 | ⟨n6,n7,i8,i9,b10,l11⟩=>[.n n6,.n n7,.i i8,.i i9,.b b10,.l l11]
def of6:List Leaf→Option S6
 | [.n n6,.n n7,.i i8,.i i9,.b b10,.l l11]=>some ⟨n6,n7,i8,i9,b10,l11⟩
 | _=>none
def ps6:List PV:=((up 3 ((.sref 1)::(.d (.int .u64) (.int .u64))::(.d (.int .i64) (.int .i64))::(up 29 []))))
def qs6:List PO:=[.dead,(.row 5 true)]
noncomputable def t (M:Nat):List Ent:=⟨88,11,0,6,sumS [3,4,5] ps6 qs6 [(3,1)] of6 (st6 M) ex6 M⟩::t1 M
theorem t_ok (M:Nat):AllOk (e M) (tblOf (t M)):=AllOk.addS (n0:=2) (lv:=lv6) (t1_ok M) (by kernel_rfl) rfl (by intro ls s h;unfold of6 at h;(repeat' split at h)<;>simp at h;subst h;rfl) (by intro s;kernel_rfl) (by intro s;kernel_rfl) (by intro s nx k;kernel_rfl)
def s (M:Nat) (p0:ByteArray):Option D:=
 (cond (mx p0.size) (cond (mx (p0.size+1)) (goS (st2 M) M ⟨p0,0,(p0.size+1),true,(ap (((bytesOf p0).drop 0).take p0.size) [(D.int .u8 128)])⟩ fun x=>match x with | .e0 s1 n2 n3 b4 l5=>(goS (st6 M) M ⟨n2,n3,(shlI .u64 (cv .u64 (nI s1.size)) 3),7,b4,l5⟩ fun x=>match x with | .e0 n6 n7 i8 i9 b10 l11=>(some (dS (ofBytes ((l11.drop n6).take n7)))))) none) none)
theorem run (M:Nat) (p0:ByteArray):callS (e M) (tblOf (t M)) 12 (.fn 88) [.d .str (dS p0)] [] (fun v H=>finish ty [9] v H)=s M p0:=by kernel_rfl
def c:Con:={ run:=fun ds=>match ds with | [p0]=>s FUEL p0.s | _=>none,plain:=true }
theorem ok:ConOk (88,c):=mkC Tryz.f88 [.str] [9] (by kernel_rfl) (by kernel_rfl) (by kernel_rfl) (by kernel_rfl) allNil allNil (t_ok FUEL) fun a=>run FUEL a.1
end F88
namespace F146
def cons:List (Nat×Con):=[]
def exts:List (Nat×Ext):=[]
def h:List (Nat×Nat×Hint):=[]
noncomputable def e (M:Nat):Env:=env cons exts h M
def s (M:Nat) (p0:Int) (p1:Int):Option D:=
 (bd (if (andI .u64 (cv .u64 p1) 31)<0 then none else some (.int .u32 (shlI .u32 p0 (andI .u64 (cv .u64 p1) 31).toNat))) fun r1=>(bd (if (sb .u64 32 (andI .u64 (cv .u64 p1) 31))<0 then none else some (.int .u32 (shrI .u32 p0 (sb .u64 32 (andI .u64 (cv .u64 p1) 31)).toNat))) fun r2=>(some (D.int .u32 (orI .u32 r1.i r2.i)))))
theorem run (M:Nat) (p0:Int) (p1:Int):callS (e M) (tblOf []) 12 (.fn 146) [.d (.int .u32) (D.int .u32 p0),.d (.int .i64) (di p1)] [] (fun v H=>finish ty [139] v H)=s M p0 p1:=by kernel_rfl
def c:Con:={ run:=fun ds=>match ds with | [p0,p1]=>s FUEL p0.i p1.i | _=>none,plain:=true }
theorem ok:ConOk (146,c):=mkC Tryz.f146 [(.int .u32),(.int .i64)] [139] (by kernel_rfl) (by kernel_rfl) (by kernel_rfl) (by kernel_rfl) allNil allNil AllOk.nil fun a=>run FUEL a.1 a.2.1
end F146
namespace F133
def cons:List (Nat×Con):=[(146,F146.c)]
def exts:List (Nat×Ext):=[]
def h:List (Nat×Nat×Hint):=[]
noncomputable def e (M:Nat):Env:=env cons exts h M
def s (M:Nat) (p0:Int) (p1:Int):Option D:=
 (bd (F146.s FUEL p0 (sb .i64 0 p1)) fun r1=>(some r1))
theorem run (M:Nat) (p0:Int) (p1:Int):callS (e M) (tblOf []) 12 (.fn 133) [.d (.int .u32) (D.int .u32 p0),.d (.int .i64) (di p1)] [] (fun v H=>finish ty [139] v H)=s M p0 p1:=by kernel_rfl
def c:Con:={ run:=fun ds=>match ds with | [p0,p1]=>s FUEL p0.i p1.i | _=>none,plain:=true }
theorem ok:ConOk (133,c):=mkC Tryz.f133 [(.int .u32),(.int .i64)] [139] (by kernel_rfl) (by kernel_rfl) (by kernel_rfl) (by kernel_rfl) (allCons F146.ok allNil) allNil AllOk.nil fun a=>run FUEL a.1 a.2.1
end F133
namespace F132
def cons:List (Nat×Con):=[(133,F133.c)]
def exts:List (Nat×Ext):=[]
def h:List (Nat×Nat×Hint):=[(132,3,{ live:=[0,2,3,7] })]
def q0_:PO:=(.var (.array 64 139) (.d (.array 64 139) .x))
noncomputable def e (M:Nat):Env:=env cons exts h M
structure S3 where
 (s1:ByteArray) (i2:Int) (d3 d4:D)
inductive X3 where
 | e0 (s1:ByteArray) (i2:Int) (d3 d4:D)
def st3 (M:Nat):S3→(S3→Option D)→(X3→Option D)→Option D
 | ⟨s1,i2,d3,d4⟩,rec,K=>(cond (ltI i2 64) (cond (ltI i2 16) (cond (inb (ml .i64 4 i2) s1.size) (cond (inb (ad .i64 (ml .i64 4 i2) 1) s1.size) (cond (inb (ad .i64 (ml .i64 4 i2) 2) s1.size) (cond (inb (ad .i64 (ml .i64 4 i2) 3) s1.size) (cond (inb i2 64) (rec ⟨s1,(ad .i64 i2 1),d3,(D.agg (d4.parts.set i2.toNat (D.int .u32 (orI .u32 (orI .u32 (orI .u32 (shlI .u32 (cv .u32 (byteAt s1 (ml .i64 4 i2).toNat)) 24) (shlI .u32 (cv .u32 (byteAt s1 (ad .i64 (ml .i64 4 i2) 1).toNat)) 16)) (shlI .u32 (cv .u32 (byteAt s1 (ad .i64 (ml .i64 4 i2) 2).toNat)) 8)) (cv .u32 (byteAt s1 (ad .i64 (ml .i64 4 i2) 3).toNat))))))⟩) none) none) none) none) none) (cond (inb (sb .i64 i2 15) 64) (cond (inb (sb .i64 i2 2) 64) (cond (inb (sb .i64 i2 16) 64) (bd (F133.s FUEL (d4.at (sb .i64 i2 15).toNat).i 7) fun r5=>(bd (F133.s FUEL (d4.at (sb .i64 i2 15).toNat).i 18) fun r6=>(cond (inb (sb .i64 i2 7) 64) (bd (F133.s FUEL (d4.at (sb .i64 i2 2).toNat).i 17) fun r7=>(bd (F133.s FUEL (d4.at (sb .i64 i2 2).toNat).i 19) fun r8=>(cond (inb i2 64) (rec ⟨s1,(ad .i64 i2 1),d3,(D.agg (d4.parts.set i2.toNat (D.int .u32 (ad .u32 (ad .u32 (ad .u32 (d4.at (sb .i64 i2 16).toNat).i (xorI .u32 (xorI .u32 r5.i r6.i) (shrI .u32 (d4.at (sb .i64 i2 15).toNat).i 3))) (d4.at (sb .i64 i2 7).toNat).i) (xorI .u32 (xorI .u32 r7.i r8.i) (shrI .u32 (d4.at (sb .i64 i2 2).toNat).i 10))))))⟩) none))) none))) none) none) none)) (K (.e0 s1 i2 d3 d4)))
def ex3 (k:Kont):X3→Option D
 | .e0 s1 i2 d3 d4=>k (.exit 0) ((vS s1)::(us 1 ((.ptr 0 [] (.array 64 139))::(.ptr 1 [] (.array 64 139))::(us 3 ((vi i2)::(vb (ltI i2 64))::(us 73 [])))))) [(.var (.array 64 139) (vk (.array 64 139) d3)),(.var (.array 64 139) (vk (.array 64 139) d4))]
def lv3:S3→List Leaf
 | ⟨s1,i2,d3,d4⟩=>[.s s1,.i i2,.d d3,.d d4]
def of3:List Leaf→Option S3
 | [.s s1,.i i2,.d d3,.d d4]=>some ⟨s1,i2,d3,d4⟩
 | _=>none
def ps3:List PV:=((.d .str .str)::(up 1 ((.ptr 0 [] (.array 64 139))::(.ptr 1 [] (.array 64 139))::(up 3 ((.d (.int .i64) (.int .i64))::(up 74 []))))))
def qs3:List PO:=[q0_,q0_]
noncomputable def t (M:Nat):List Ent:=⟨132,11,0,3,sumS [0,2,3,7] ps3 qs3 [] of3 (st3 M) ex3 M⟩::[]
theorem t_ok (M:Nat):AllOk (e M) (tblOf (t M)):=AllOk.addS (n0:=2) (lv:=lv3) AllOk.nil (by kernel_rfl) rfl (by intro ls s h;unfold of3 at h;(repeat' split at h)<;>simp at h;subst h;rfl) (by intro s;kernel_rfl) (by intro s;kernel_rfl) (by intro s nx k;kernel_rfl)
def s (M:Nat) (p0:ByteArray):Option D:=
 (goS (st3 M) M ⟨p0,0,(da (rp 64 (D.int .u32 0))),(da (rp 64 (D.int .u32 0)))⟩ fun x=>match x with | .e0 s1 i2 d3 d4=>(some d4))
theorem run (M:Nat) (p0:ByteArray):callS (e M) (tblOf (t M)) 12 (.fn 132) [.d .str (dS p0)] [] (fun v H=>finish ty [141] v H)=s M p0:=by kernel_rfl
def c:Con:={ run:=fun ds=>match ds with | [p0]=>s FUEL p0.s | _=>none,plain:=true }
theorem ok:ConOk (132,c):=mkC Tryz.f132 [.str] [141] (by kernel_rfl) (by kernel_rfl) (by kernel_rfl) (by kernel_rfl) (allCons F133.ok allNil) allNil (t_ok FUEL) fun a=>run FUEL a.1
end F132
namespace F89
def cons:List (Nat×Con):=[(132,F132.c),(133,F133.c)]
def exts:List (Nat×Ext):=[]
def h:List (Nat×Nat×Hint):=[(89,1,{ own:=true }),(89,3,{ live:=[3,4,6,7,17,18] }),(89,13,{ live:=[3,6,7,91] })]
def q0_:PO:=(.var (.array 8 139) (.d (.array 8 139) (.agg [(.int .u32),(.int .u32),(.int .u32),(.int .u32),(.int .u32),(.int .u32),(.int .u32),(.int .u32)])))
def q1_:PO:=(.var (.array 64 139) (.d (.array 64 139) .x))
def q2_:PO:=(.var (.array 8 139) (.d (.array 8 139) .x))
noncomputable def e (M:Nat):Env:=env cons exts h M
structure S3 where
 (d2:D) (i3:Int) (d4 d5:D) (i6 i7 i8 i9 i10 i11 i12 i13:Int) (b14:Bool) (l15:List D)
inductive X3 where
 | e0 (d2:D) (i3:Int) (d4 d5:D) (i6 i7 i8 i9 i10 i11 i12 i13:Int) (b14:Bool) (l15:List D)
def st3 (M:Nat):S3→(S3→Option D)→(X3→Option D)→Option D
 | ⟨d2,i3,d4,d5,i6,i7,i8,i9,i10,i11,i12,i13,b14,l15⟩,rec,K=>(cond (ltI i3 64) (cond (inb i3 64) (bd (F133.s FUEL (ix l15 4).i 6) fun r16=>(bd (F133.s FUEL (ix l15 4).i 11) fun r17=>(bd (F133.s FUEL (ix l15 4).i 25) fun r18=>(cond (inb i3 64) (bd (F133.s FUEL (ix l15 0).i 2) fun r19=>(bd (F133.s FUEL (ix l15 0).i 13) fun r20=>(bd (F133.s FUEL (ix l15 0).i 22) fun r21=>(cond (true&&true&&true&&(Nat.beq l15.length 8)) (cond (true&&true&&true&&(Nat.beq l15.length 8)) (rec ⟨d2,(ad .i64 i3 1),d4,d5,i6,i7,i8,i9,i10,i11,i12,i13,b14,(((ap (ap (l15.take 1) (((l15.drop 0).take 7).take (min ((l15.drop 0).take 7).length 7))) (l15.drop (1+(min ((l15.drop 0).take 7).length 7)))).set 0 (D.int .u32 (ad .u32 (ad .u32 (ad .u32 (ad .u32 (ad .u32 (ix l15 7).i (xorI .u32 (xorI .u32 r16.i r17.i) r18.i)) (xorI .u32 (andI .u32 (ix l15 4).i (ix l15 5).i) (andI .u32 (notI .u32 (ix l15 4).i) (ix l15 6).i))) (d5.at i3.toNat).i) (d2.at i3.toNat).i) (ad .u32 (xorI .u32 (xorI .u32 r19.i r20.i) r21.i) (xorI .u32 (xorI .u32 (andI .u32 (ix l15 0).i (ix l15 1).i) (andI .u32 (ix l15 0).i (ix l15 2).i)) (andI .u32 (ix l15 1).i (ix l15 2).i)))))).set 4 (D.int .u32 (ad .u32 (ix ((ap (ap (l15.take 1) (((l15.drop 0).take 7).take (min ((l15.drop 0).take 7).length 7))) (l15.drop (1+(min ((l15.drop 0).take 7).length 7)))).set 0 (D.int .u32 (ad .u32 (ad .u32 (ad .u32 (ad .u32 (ad .u32 (ix l15 7).i (xorI .u32 (xorI .u32 r16.i r17.i) r18.i)) (xorI .u32 (andI .u32 (ix l15 4).i (ix l15 5).i) (andI .u32 (notI .u32 (ix l15 4).i) (ix l15 6).i))) (d5.at i3.toNat).i) (d2.at i3.toNat).i) (ad .u32 (xorI .u32 (xorI .u32 r19.i r20.i) r21.i) (xorI .u32 (xorI .u32 (andI .u32 (ix l15 0).i (ix l15 1).i) (andI .u32 (ix l15 0).i (ix l15 2).i)) (andI .u32 (ix l15 1).i (ix l15 2).i)))))) 4).i (ad .u32 (ad .u32 (ad .u32 (ad .u32 (ix l15 7).i (xorI .u32 (xorI .u32 r16.i r17.i) r18.i)) (xorI .u32 (andI .u32 (ix l15 4).i (ix l15 5).i) (andI .u32 (notI .u32 (ix l15 4).i) (ix l15 6).i))) (d5.at i3.toNat).i) (d2.at i3.toNat).i))))⟩) none) none)))) none)))) none) (K (.e0 d2 i3 d4 d5 i6 i7 i8 i9 i10 i11 i12 i13 b14 l15)))
def ex3 (k:Kont):X3→Option D
 | .e0 d2 i3 d4 d5 i6 i7 i8 i9 i10 i11 i12 i13 b14 l15=>k (.exit 0) ((us 3 ((.ptr 0 [] (.array 8 139))::(.ptr 1 [] (.array 64 139))::(us 1 ((.ptr 2 [] (.array 8 139))::(.ptr 3 [] (.array 8 139))::(us 9 ((vk (.array 64 139) d2)::(vi i3)::(vb (ltI i3 64))::(us 84 [])))))))) [(.var (.array 8 139) (vk (.array 8 139) d4)),(.var (.array 64 139) (vk (.array 64 139) d5)),(.var (.array 8 139) (vk (.array 8 139) (da [(D.int .u32 i6),(D.int .u32 i7),(D.int .u32 i8),(D.int .u32 i9),(D.int .u32 i10),(D.int .u32 i11),(D.int .u32 i12),(D.int .u32 i13)]))),(.row 139 true b14 l15)]
def lv3:S3→List Leaf
 | ⟨d2,i3,d4,d5,i6,i7,i8,i9,i10,i11,i12,i13,b14,l15⟩=>[.d d2,.i i3,.d d4,.d d5,.i i6,.i i7,.i i8,.i i9,.i i10,.i i11,.i i12,.i i13,.b b14,.l l15]
def of3:List Leaf→Option S3
 | [.d d2,.i i3,.d d4,.d d5,.i i6,.i i7,.i i8,.i i9,.i i10,.i i11,.i i12,.i i13,.b b14,.l l15]=>some ⟨d2,i3,d4,d5,i6,i7,i8,i9,i10,i11,i12,i13,b14,l15⟩
 | _=>none
def ps3:List PV:=((up 3 ((.ptr 0 [] (.array 8 139))::(.ptr 1 [] (.array 64 139))::(up 1 ((.ptr 2 [] (.array 8 139))::(.ptr 3 [] (.array 8 139))::(up 9 ((.d (.array 64 139) .x)::(.d (.int .i64) (.int .i64))::(up 85 []))))))))
def qs3:List PO:=[q2_,q1_,q0_,(.row 139 true)]
noncomputable def t1 (M:Nat):List Ent:=⟨89,11,0,3,sumS [3,4,6,7,17,18] ps3 qs3 [] of3 (st3 M) ex3 M⟩::[]
theorem t1_ok (M:Nat):AllOk (e M) (tblOf (t1 M)):=AllOk.addS (n0:=4) (lv:=lv3) AllOk.nil (by kernel_rfl) rfl (by intro ls s h;unfold of3 at h;(repeat' split at h)<;>simp at h;subst h;rfl) (by intro s;kernel_rfl) (by intro s;kernel_rfl) (by intro s nx k;kernel_rfl)
structure S13 where
 (i22:Int) (d23 d24:D) (i25 i26 i27 i28 i29 i30 i31 i32:Int) (b33:Bool) (l34:List D)
inductive X13 where
 | e0 (i22:Int) (d23 d24:D) (i25 i26 i27 i28 i29 i30 i31 i32:Int) (b33:Bool) (l34:List D)
def st13 (M:Nat):S13→(S13→Option D)→(X13→Option D)→Option D
 | ⟨i22,d23,d24,i25,i26,i27,i28,i29,i30,i31,i32,b33,l34⟩,rec,K=>(cond (ltI i22 8) (cond (inb i22 8) (cond (inb i22 8) (cond (inb i22 8) (rec ⟨(ad .i64 i22 1),(D.agg (d23.parts.set i22.toNat (D.int .u32 (ad .u32 (d23.at i22.toNat).i (ix l34 i22.toNat).i)))),d24,i25,i26,i27,i28,i29,i30,i31,i32,b33,l34⟩) none) none) none) (K (.e0 i22 d23 d24 i25 i26 i27 i28 i29 i30 i31 i32 b33 l34)))
def ex13 (k:Kont):X13→Option D
 | .e0 i22 d23 d24 i25 i26 i27 i28 i29 i30 i31 i32 b33 l34=>k (.exit 2) ((us 3 ((.ptr 0 [] (.array 8 139))::(us 2 ((.ptr 2 [] (.array 8 139))::(.ptr 3 [] (.array 8 139))::(us 83 ((vi i22)::(vb (ltI i22 8))::(us 11 [])))))))) [(.var (.array 8 139) (vk (.array 8 139) d23)),(.var (.array 64 139) (vk (.array 64 139) d24)),(.var (.array 8 139) (vk (.array 8 139) (da [(D.int .u32 i25),(D.int .u32 i26),(D.int .u32 i27),(D.int .u32 i28),(D.int .u32 i29),(D.int .u32 i30),(D.int .u32 i31),(D.int .u32 i32)]))),(.row 139 true b33 l34)]
def lv13:S13→List Leaf
 | ⟨i22,d23,d24,i25,i26,i27,i28,i29,i30,i31,i32,b33,l34⟩=>[.i i22,.d d23,.d d24,.i i25,.i i26,.i i27,.i i28,.i i29,.i i30,.i i31,.i i32,.b b33,.l l34]
def of13:List Leaf→Option S13
 | [.i i22,.d d23,.d d24,.i i25,.i i26,.i i27,.i i28,.i i29,.i i30,.i i31,.i i32,.b b33,.l l34]=>some ⟨i22,d23,d24,i25,i26,i27,i28,i29,i30,i31,i32,b33,l34⟩
 | _=>none
def ps13:List PV:=((up 3 ((.ptr 0 [] (.array 8 139))::(up 2 ((.ptr 2 [] (.array 8 139))::(.ptr 3 [] (.array 8 139))::(up 83 ((.d (.int .i64) (.int .i64))::(up 12 []))))))))
def qs13:List PO:=[q2_,q1_,q0_,(.row 139 true)]
noncomputable def t (M:Nat):List Ent:=⟨89,11,0,13,sumS [3,6,7,91] ps13 qs13 [] of13 (st13 M) ex13 M⟩::t1 M
theorem t_ok (M:Nat):AllOk (e M) (tblOf (t M)):=AllOk.addS (n0:=4) (lv:=lv13) (t1_ok M) (by kernel_rfl) rfl (by intro ls s h;unfold of13 at h;(repeat' split at h)<;>simp at h;subst h;rfl) (by intro s;kernel_rfl) (by intro s;kernel_rfl) (by intro s nx k;kernel_rfl)
def s (M:Nat) (p0:D) (p1:D) (p2:ByteArray):Option D:=
 (cond (Nat.beq p0.parts.length 8) (bd (F132.s FUEL p2) fun r1=>(goS (st3 M) M ⟨r1,0,p0,p1,0,0,0,0,0,0,0,0,true,p0.parts⟩ fun x=>match x with | .e0 d2 i3 d4 d5 i6 i7 i8 i9 i10 i11 i12 i13 b14 l15=>(goS (st13 M) M ⟨0,d4,d5,i6,i7,i8,i9,i10,i11,i12,i13,b14,l15⟩ fun x=>match x with | .e0 i22 d23 d24 i25 i26 i27 i28 i29 i30 i31 i32 b33 l34=>(some d23)))) none)
theorem run (M:Nat) (p0:D) (p1:D) (p2:ByteArray):callS (e M) (tblOf (t M)) 12 (.fn 89) [.d (.array 8 139) p0,.d (.array 64 139) p1,.d .str (dS p2)] [] (fun v H=>finish ty [140] v H)=s M p0 p1 p2:=by kernel_rfl
def c:Con:={ run:=fun ds=>match ds with | [p0,p1,p2]=>s FUEL p0 p1 p2.s | _=>none,plain:=true }
theorem ok:ConOk (89,c):=mkC Tryz.f89 [(.array 8 139),(.array 64 139),.str] [140] (by kernel_rfl) (by kernel_rfl) (by kernel_rfl) (by kernel_rfl) (allCons F132.ok (allCons F133.ok allNil)) allNil (t_ok FUEL) fun a=>run FUEL a.1 a.2.1 a.2.2.1
end F89
namespace F42
def cons:List (Nat×Con):=[(87,F87.c),(88,F88.c),(89,F89.c)]
def exts:List (Nat×Ext):=[]
def h:List (Nat×Nat×Hint):=[(42,3,{ live:=[2,3,4,5] }),(42,8,{ live:=[2,3,6,24] })]
def q0_:PO:=(.var (.array 64 139) (.d (.array 64 139) .x))
def q1_:PO:=(.var (.array 8 139) (.d (.array 8 139) .x))
def q2_:PO:=(.var (.array 32 5) (.d (.array 32 5) .x))
noncomputable def e (M:Nat):Env:=env cons exts h M
structure S3 where
 (d3 d4 d5 d6:D)
inductive X3 where
 | e0 (d3 d4 d5 d6:D)
def st3 (M:Nat):S3→(S3→Option D)→(X3→Option D)→Option D
 | ⟨d3,d4,d5,d6⟩,rec,K=>(cond (gtI (nI d3.s.size) 0) (cond (true&&true&&(leI 64 (nI d3.s.size))&&(leI (nI d3.s.size) (nI d3.s.size))) (bd (F89.s FUEL d5 d6 (d3.s.extract 0 64)) fun r7=>(cond (true&&(leI 64 (nI d3.s.size))&&(leI (nI d3.s.size) (nI d3.s.size))&&(leI (nI d3.s.size) (nI d3.s.size))) (rec ⟨(dS (d3.s.extract 64 d3.s.size)),d4,r7,d6⟩) none)) none) (K (.e0 d3 d4 d5 d6)))
def ex3 (k:Kont):X3→Option D
 | .e0 d3 d4 d5 d6=>k (.exit 0) ((us 2 ((.ptr 0 [] (.array 32 5))::(.ptr 1 [] (.array 8 139))::(.ptr 2 [] (.array 64 139))::(vk .str d3)::(us 8 ((vk .str d3)::(vi (nI d3.s.size))::(vb (gtI (nI d3.s.size) 0))::(us 24 [])))))) [(.var (.array 32 5) (vk (.array 32 5) d4)),(.var (.array 8 139) (vk (.array 8 139) d5)),(.var (.array 64 139) (vk (.array 64 139) d6))]
def lv3:S3→List Leaf
 | ⟨d3,d4,d5,d6⟩=>[.d d3,.d d4,.d d5,.d d6]
def of3:List Leaf→Option S3
 | [.d d3,.d d4,.d d5,.d d6]=>some ⟨d3,d4,d5,d6⟩
 | _=>none
def ps3:List PV:=((up 2 ((.ptr 0 [] (.array 32 5))::(.ptr 1 [] (.array 8 139))::(.ptr 2 [] (.array 64 139))::(.d .str .x)::(up 35 []))))
def qs3:List PO:=[q2_,q1_,q0_]
noncomputable def t1 (M:Nat):List Ent:=⟨42,11,0,3,sumS [2,3,4,5] ps3 qs3 [] of3 (st3 M) ex3 M⟩::[]
theorem t1_ok (M:Nat):AllOk (e M) (tblOf (t1 M)):=AllOk.addS (n0:=3) (lv:=lv3) AllOk.nil (by kernel_rfl) rfl (by intro ls s h;unfold of3 at h;(repeat' split at h)<;>simp at h;subst h;rfl) (by intro s;kernel_rfl) (by intro s;kernel_rfl) (by intro s nx k;kernel_rfl)
structure S8 where
 (i8:Int) (d9 d10 d11 d12:D)
inductive X8 where
 | e0 (i8:Int) (d9 d10 d11 d12:D)
def st8 (M:Nat):S8→(S8→Option D)→(X8→Option D)→Option D
 | ⟨i8,d9,d10,d11,d12⟩,rec,K=>(cond (ltI i8 32) (cond (inb (quoI .i64 i8 4) 8) (bd (if (sb .i64 24 (ml .i64 8 (remI i8 4)))<0 then none else some (.int .u32 (shrI .u32 (d10.at (quoI .i64 i8 4).toNat).i (sb .i64 24 (ml .i64 8 (remI i8 4))).toNat))) fun r13=>(cond (inb i8 32) (rec ⟨(ad .i64 i8 1),d9,d10,d11,(D.agg (d12.parts.set i8.toNat (D.int .u8 (cv .u8 r13.i))))⟩) none)) none) (K (.e0 i8 d9 d10 d11 d12)))
def ex8 (k:Kont):X8→Option D
 | .e0 i8 d9 d10 d11 d12=>k (.exit 2) ((us 2 ((.ptr 0 [] (.array 32 5))::(.ptr 1 [] (.array 8 139))::(us 2 ((.ptr 3 [] (.array 32 5))::(us 17 ((vi i8)::(vb (ltI i8 32))::(us 15 [])))))))) [(.var (.array 32 5) (vk (.array 32 5) d9)),(.var (.array 8 139) (vk (.array 8 139) d10)),(.var (.array 64 139) (vk (.array 64 139) d11)),(.var (.array 32 5) (vk (.array 32 5) d12))]
def lv8:S8→List Leaf
 | ⟨i8,d9,d10,d11,d12⟩=>[.i i8,.d d9,.d d10,.d d11,.d d12]
def of8:List Leaf→Option S8
 | [.i i8,.d d9,.d d10,.d d11,.d d12]=>some ⟨i8,d9,d10,d11,d12⟩
 | _=>none
def ps8:List PV:=((up 2 ((.ptr 0 [] (.array 32 5))::(.ptr 1 [] (.array 8 139))::(up 2 ((.ptr 3 [] (.array 32 5))::(up 17 ((.d (.int .i64) (.int .i64))::(up 16 []))))))))
def qs8:List PO:=[q2_,q1_,q0_,q2_]
noncomputable def t (M:Nat):List Ent:=⟨42,11,0,8,sumS [2,3,6,24] ps8 qs8 [] of8 (st8 M) ex8 M⟩::t1 M
theorem t_ok (M:Nat):AllOk (e M) (tblOf (t M)):=AllOk.addS (n0:=4) (lv:=lv8) (t1_ok M) (by kernel_rfl) rfl (by intro ls s h;unfold of8 at h;(repeat' split at h)<;>simp at h;subst h;rfl) (by intro s;kernel_rfl) (by intro s;kernel_rfl) (by intro s nx k;kernel_rfl)
def s (M:Nat) (p0:ByteArray):Option D:=
 (bd (F87.s FUEL) fun r1=>(bd (F88.s FUEL p0) fun r2=>(goS (st3 M) M ⟨r2,(da (rp 32 (D.int .u8 0))),(r1.at 0),(r1.at 1)⟩ fun x=>match x with | .e0 d3 d4 d5 d6=>(goS (st8 M) M ⟨0,d4,d5,d6,(da (rp 32 (D.int .u8 0)))⟩ fun x=>match x with | .e0 i8 d9 d10 d11 d12=>(some d12)))))
theorem run (M:Nat) (p0:ByteArray):callS (e M) (tblOf (t M)) 12 (.fn 42) [.d .str (dS p0)] [] (fun v H=>finish ty [56] v H)=s M p0:=by kernel_rfl
def c:Con:={ run:=fun ds=>match ds with | [p0]=>s FUEL p0.s | _=>none,plain:=true }
theorem ok:ConOk (42,c):=mkC Tryz.f42 [.str] [56] (by kernel_rfl) (by kernel_rfl) (by kernel_rfl) (by kernel_rfl) (allCons F87.ok (allCons F88.ok (allCons F89.ok allNil))) allNil (t_ok FUEL) fun a=>run FUEL a.1
end F42
namespace F139
def cons:List (Nat×Con):=[(42,F42.c)]
def exts:List (Nat×Ext):=[]
def h:List (Nat×Nat×Hint):=[]
noncomputable def e (M:Nat):Env:=env cons exts h M
def s (M:Nat) (p0:D) (p1:D):Option D:=
 (cond (eqI (p1.at 0).i 1) (some (da [(p1.at 0),(p0.at 0),(dS (bs [])),(di 0),(di (nI (p1.at 2).s.size)),(da (rp 32 (D.int .u8 0)))])) (cond (eqI (p1.at 0).i 2) (bd (F42.s FUEL (p0.at 2).s) fun r1=>(some (da [(p1.at 0),(p0.at 0),(dS (bs [])),(p1.at 3),(di (nI (p0.at 2).s.size)),r1]))) (cond (eqI (p1.at 0).i 3) (some (da [(p1.at 0),(p0.at 0),(dS (bs [])),(p1.at 3),(di 0),(da (rp 32 (D.int .u8 0)))])) (cond (eqI (p1.at 0).i 4) (cond (eqI (p1.at 0).i 4) (some (da [(p1.at 0),(p0.at 0),(p1.at 2),(di 0),(di 0),(da (rp 32 (D.int .u8 0)))])) (some (da [(p1.at 0),(p0.at 0),(dS (bs [])),(di 0),(di 0),(da (rp 32 (D.int .u8 0)))]))) (cond (eqI (p1.at 0).i 5) (some (da [(p1.at 0),(p0.at 0),(p1.at 2),(di 0),(di 0),(da (rp 32 (D.int .u8 0)))])) (some (da [(p1.at 0),(p0.at 0),(dS (bs [])),(di 0),(di 0),(da (rp 32 (D.int .u8 0)))])))))))
theorem run (M:Nat) (p0:D) (p1:D):callS (e M) (tblOf []) 12 (.fn 139) [.d (.struct [3,9,9,4,3,37]) p0,.d (.struct [50,9,9,3,3,3]) p1] [] (fun v H=>finish ty [58] v H)=s M p0 p1:=by kernel_rfl
def c:Con:={ run:=fun ds=>match ds with | [p0,p1]=>s FUEL p0 p1 | _=>none,plain:=true }
theorem ok:ConOk (139,c):=mkC Tryz.f139 [(.struct [3,9,9,4,3,37]),(.struct [50,9,9,3,3,3])] [58] (by kernel_rfl) (by kernel_rfl) (by kernel_rfl) (by kernel_rfl) (allCons F42.ok allNil) allNil AllOk.nil fun a=>run FUEL a.1 a.2.1
end F139
namespace F108
def cons:List (Nat×Con):=[(76,F76.c),(79,F79.c),(81,F81.c),(83,F83.c),(85,F85.c),(138,F138.c),(139,F139.c),(148,F148.c)]
def exts:List (Nat×Ext):=[]
def h:List (Nat×Nat×Hint):=[]
noncomputable def e (M:Nat):Env:=env cons exts h M
def s (M:Nat) (p0:D) (p1:D) (p2:Int):Option D:=
 (cond (eqI (p1.at 0).i 1) (cond (eqI (p1.at 0).i 0) (some (D.tup [p0,(da [(di 0),(di 0),(dS (bs [])),(di 0),(di 0),(da (rp 32 (D.int .u8 0)))]),(di 4)])) (cond (eqI (p1.at 0).i 6) none (bd (F148.s FUEL p0 (p1.at 2).s) fun r1=>(cond (neI (r1.at 1).i 0) (some (D.tup [p0,(da [(di 0),(di 0),(dS (bs [])),(di 0),(di 0),(da (rp 32 (D.int .u8 0)))]),(r1.at 1)])) (bd (F139.s FUEL p0 p1) fun r2=>(some (D.tup [(r1.at 0),r2,(di 0)]))))))) (cond (eqI (p1.at 0).i 4) (cond (eqI (p1.at 0).i 0) (some (D.tup [p0,(da [(di 0),(di 0),(dS (bs [])),(di 0),(di 0),(da (rp 32 (D.int .u8 0)))]),(di 4)])) (cond (eqI (p1.at 0).i 6) none (bd (F81.s FUEL p0 (p1.at 2).s) fun r3=>(cond (neI (r3.at 1).i 0) (some (D.tup [p0,(da [(di 0),(di 0),(dS (bs [])),(di 0),(di 0),(da (rp 32 (D.int .u8 0)))]),(r3.at 1)])) (bd (F139.s FUEL p0 p1) fun r4=>(some (D.tup [(r3.at 0),r4,(di 0)]))))))) (cond (eqI (p1.at 0).i 5) (cond (eqI (p1.at 0).i 0) (some (D.tup [p0,(da [(di 0),(di 0),(dS (bs [])),(di 0),(di 0),(da (rp 32 (D.int .u8 0)))]),(di 4)])) (cond (eqI (p1.at 0).i 6) none (bd (F83.s FUEL p0 (p1.at 2).s) fun r5=>(cond (neI (r5.at 1).i 0) (some (D.tup [p0,(da [(di 0),(di 0),(dS (bs [])),(di 0),(di 0),(da (rp 32 (D.int .u8 0)))]),(r5.at 1)])) (bd (F139.s FUEL p0 p1) fun r6=>(some (D.tup [(r5.at 0),r6,(di 0)]))))))) (cond (eqI (p1.at 0).i 2) (cond (eqI (p1.at 0).i 0) (some (D.tup [p0,(da [(di 0),(di 0),(dS (bs [])),(di 0),(di 0),(da (rp 32 (D.int .u8 0)))]),(di 4)])) (cond (eqI (p1.at 0).i 6) none (bd (F76.s FUEL p0 (p1.at 3).i) fun r7=>(cond (neI (r7.at 1).i 0) (some (D.tup [p0,(da [(di 0),(di 0),(dS (bs [])),(di 0),(di 0),(da (rp 32 (D.int .u8 0)))]),(r7.at 1)])) (bd (F139.s FUEL p0 p1) fun r8=>(some (D.tup [(r7.at 0),r8,(di 0)]))))))) (cond (eqI (p1.at 0).i 3) (cond (eqI (p1.at 0).i 0) (some (D.tup [p0,(da [(di 0),(di 0),(dS (bs [])),(di 0),(di 0),(da (rp 32 (D.int .u8 0)))]),(di 4)])) (cond (eqI (p1.at 0).i 6) none (bd (F79.s FUEL p0 (p1.at 3).i) fun r9=>(cond (neI (r9.at 1).i 0) (some (D.tup [p0,(da [(di 0),(di 0),(dS (bs [])),(di 0),(di 0),(da (rp 32 (D.int .u8 0)))]),(r9.at 1)])) (bd (F139.s FUEL p0 p1) fun r10=>(some (D.tup [(r9.at 0),r10,(di 0)]))))))) (cond (eqI (p1.at 0).i 6) (cond (eqI (p1.at 0).i 0) (some (D.tup [p0,(da [(di 0),(di 0),(dS (bs [])),(di 0),(di 0),(da (rp 32 (D.int .u8 0)))]),(di 4)])) (cond (eqI (p1.at 0).i 6) (bd (F85.s FUEL p0 p2) fun r11=>(cond (neI r11.i 0) (some (D.tup [p0,(da [(di 0),(di 0),(dS (bs [])),(di 0),(di 0),(da (rp 32 (D.int .u8 0)))]),r11])) (bd (F139.s FUEL p0 p1) fun r12=>(some (D.tup [(da [(di 0),(dS (bs [])),(dS (bs [])),(db false),(di 0),(dl false [])]),r12,(di 0)]))))) none)) (cond (eqI (p1.at 0).i 0) (some (D.tup [p0,(da [(di 0),(di 0),(dS (bs [])),(di 0),(di 0),(da (rp 32 (D.int .u8 0)))]),(di 4)])) (some (D.tup [p0,(da [(di 0),(di 0),(dS (bs [])),(di 0),(di 0),(da (rp 32 (D.int .u8 0)))]),(di 1)])))))))))
theorem run (M:Nat) (p0:D) (p1:D) (p2:Int):callS (e M) (tblOf []) 12 (.fn 108) [.d (.struct [3,9,9,4,3,37]) p0,.d (.struct [50,9,9,3,3,3]) p1,.d (.int .i64) (di p2)] [] (fun v H=>finish ty [39,58,36] v H)=s M p0 p1 p2:=by kernel_rfl
def c:Con:={ run:=fun ds=>match ds with | [p0,p1,p2]=>s FUEL p0 p1 p2.i | _=>none }
theorem ok:ConOk (108,c):=mkC Tryz.f108 [(.struct [3,9,9,4,3,37]),(.struct [50,9,9,3,3,3]),(.int .i64)] [39,58,36] (by kernel_rfl) (by kernel_rfl) (by kernel_rfl) (by kernel_rfl) (allCons F76.ok (allCons F79.ok (allCons F81.ok (allCons F83.ok (allCons F85.ok (allCons F138.ok (allCons F139.ok (allCons F148.ok allNil)))))))) allNil AllOk.nil fun a=>run FUEL a.1 a.2.1 a.2.2.1
end F108
namespace F110
def cons:List (Nat×Con):=[]
def exts:List (Nat×Ext):=[]
def h:List (Nat×Nat×Hint):=[]
noncomputable def e (M:Nat):Env:=env cons exts h M
def s (M:Nat) (p0:Int) (p1:Int):Option D:=
 (some (di (maxi p0 (mini (maxi p1 0) 1099511627776))))
theorem run (M:Nat) (p0:Int) (p1:Int):callS (e M) (tblOf []) 12 (.fn 110) [.d (.int .i64) (di p0),.d (.int .i64) (di p1)] [] (fun v H=>finish ty [3] v H)=s M p0 p1:=by kernel_rfl
def c:Con:={ run:=fun ds=>match ds with | [p0,p1]=>s FUEL p0.i p1.i | _=>none,plain:=true }
theorem ok:ConOk (110,c):=mkC Tryz.f110 [(.int .i64),(.int .i64)] [3] (by kernel_rfl) (by kernel_rfl) (by kernel_rfl) (by kernel_rfl) allNil allNil AllOk.nil fun a=>run FUEL a.1 a.2.1
end F110
namespace F111
def cons:List (Nat×Con):=[(85,F85.c)]
def exts:List (Nat×Ext):=[]
def h:List (Nat×Nat×Hint):=[(111,4,{ live:=[5] }),(149,1,{ live:=[0,2,6,7,8],rows:=[(1048576,3)] })]
noncomputable def e (M:Nat):Env:=env cons exts h M
structure S149_1 where
 (d1:D) (i2 i3:Int) (n4 n5:Nat) (d6:D) (i7:Int) (b8:Bool) (l9:List D)
inductive X149_1 where
 | e0 (d1:D) (i2 i3:Int) (n4 n5:Nat) (d6:D) (i7:Int) (b8:Bool) (l9:List D)
def st149_1 (M:Nat):S149_1→(S149_1→Option D)→(X149_1→Option D)→Option D
 | ⟨d1,i2,i3,n4,n5,d6,i7,b8,l9⟩,rec,K=>(cond (ltI i3 i2) (cond (inb i3 d1.elems.length) (bd (F85.s FUEL (ix d1.elems i3.toNat) i7) fun r10=>(cond (eqI r10.i 0) (cond (mx (n5+1)) (rec ⟨d1,i2,(ad .i64 i3 1),0,(n5+1),d6,i7,(b8||true),(ap ((l9.drop n4).take n5) [((ix d1.elems i3.toNat).at 0)])⟩) none) (rec ⟨d1,i2,(ad .i64 i3 1),n4,n5,d6,i7,b8,l9⟩))) none) (K (.e0 d1 i2 i3 n4 n5 d6 i7 b8 l9)))
def ex149_1 (k:Kont):X149_1→Option D
 | .e0 d1 i2 i3 n4 n5 d6 i7 b8 l9=>k (.exit 0) ((.yield 3)::(us 1 ((.ptr 2 [] (.int .i64))::(us 3 ((vk (.slice 39) d1)::(vi i2)::(vi i3)::(vb (ltI i3 i2))::(us 13 [])))))) [(.var (.slice 3) (.sref 4 n4 n5)),(.var (.slice 39) (vk (.slice 39) d6)),(.var (.int .i64) (vi i7)),(.loop .ready 111 4 (.tup ((us 5 ((.ptr 0 [] (.slice 3))::(us 11 [])))))),(.row 3 true b8 l9)]
def lv149_1:S149_1→List Leaf
 | ⟨d1,i2,i3,n4,n5,d6,i7,b8,l9⟩=>[.d d1,.i i2,.i i3,.n n4,.n n5,.d d6,.i i7,.b b8,.l l9]
def of149_1:List Leaf→Option S149_1
 | [.d d1,.i i2,.i i3,.n n4,.n n5,.d d6,.i i7,.b b8,.l l9]=>some ⟨d1,i2,i3,n4,n5,d6,i7,b8,l9⟩
 | _=>none
def ps149_1:List PV:=((.yield 3)::(up 1 ((.ptr 2 [] (.int .i64))::(up 3 ((.d (.slice 39) .x)::(.d (.int .i64) (.int .i64))::(.d (.int .i64) (.int .i64))::(up 14 []))))))
def qs149_1:List PO:=[(.var (.slice 3) (.sref 4)),(.var (.slice 39) (.d (.slice 39) .x)),(.var (.int .i64) (.d (.int .i64) (.int .i64))),(.loop false 111 4 (.tup ((up 5 ((.ptr 0 [] (.slice 3))::(up 11 [])))))),(.row 3 true)]
noncomputable def t (M:Nat):List Ent:=⟨149,10,4,1,sumS [0,2,6,7,8] ps149_1 qs149_1 [(1048576,4)] of149_1 (st149_1 M) ex149_1 M⟩::[]
theorem t_ok (M:Nat):AllOk (e M) (tblOf (t M)):=AllOk.addS (n0:=5) (lv:=lv149_1) AllOk.nil (by kernel_rfl) rfl (by intro ls s h;unfold of149_1 at h;(repeat' split at h)<;>simp at h;subst h;rfl) (by intro s;kernel_rfl) (by intro s;kernel_rfl) (by intro s nx k;kernel_rfl)
def s (M:Nat) (p0:D) (p1:Int):Option D:=
 (goS (st149_1 M) M ⟨p0,(nI p0.elems.length),0,0,0,p0,p1,false,[]⟩ fun x=>match x with | .e0 d1 i2 i3 n4 n5 d6 i7 b8 l9=>(cond ((decide (n5=l9.length))&&(decide (n4=0))) (some (.slice b8 l9)) none))
theorem run (M:Nat) (p0:D) (p1:Int):callS (e M) (tblOf (t M)) 12 (.fn 111) [.d (.slice 39) p0,.d (.int .i64) (di p1)] [] (fun v H=>finishFresh ty [152] v H)=s M p0 p1:=by kernel_rfl
def c:Con:={ run:=fun ds=>match ds with | [p0,p1]=>s FUEL p0 p1.i | _=>none,fresh:=true }
theorem ok:ConOk (111,c):=mkF Tryz.f111 [(.slice 39),(.int .i64)] [152] (by kernel_rfl) (by kernel_rfl) (by kernel_rfl) (allCons F85.ok allNil) allNil (t_ok FUEL) fun a=>run FUEL a.1 a.2.1
end F111
namespace F114
def cons:List (Nat×Con):=[]
def exts:List (Nat×Ext):=[]
def h:List (Nat×Nat×Hint):=[]
noncomputable def e (M:Nat):Env:=env cons exts h M
def s (M:Nat) (p0:D) (p1:Int) (p2:Int):Option D:=
 (cond (ltI p1 0) (some (D.tup [(dS (bs [])),(di 1)])) (cond (ltI p2 p1) (some (D.tup [(dS (bs [])),(di 1)])) (cond (gtI p2 (nI (p0.at 2).s.size)) (some (D.tup [(dS (bs [])),(di 1)])) (cond ((leI 0 p1)&&(leI p1 p2)&&(leI p2 (nI (p0.at 2).s.size))&&(leI (nI (p0.at 2).s.size) (nI (p0.at 2).s.size))) (some (D.tup [(dS ((p0.at 2).s.extract p1.toNat p2.toNat)),(di 0)])) none))))
theorem run (M:Nat) (p0:D) (p1:Int) (p2:Int):callS (e M) (tblOf []) 12 (.fn 114) [.d (.struct [3,9,9,4,3,37]) p0,.d (.int .i64) (di p1),.d (.int .i64) (di p2)] [] (fun v H=>finish ty [9,36] v H)=s M p0 p1 p2:=by kernel_rfl
def c:Con:={ run:=fun ds=>match ds with | [p0,p1,p2]=>s FUEL p0 p1.i p2.i | _=>none,plain:=true }
theorem ok:ConOk (114,c):=mkC Tryz.f114 [(.struct [3,9,9,4,3,37]),(.int .i64),(.int .i64)] [9,36] (by kernel_rfl) (by kernel_rfl) (by kernel_rfl) (by kernel_rfl) allNil allNil AllOk.nil fun a=>run FUEL a.1 a.2.1 a.2.2.1
end F114
namespace F41
def cons:List (Nat×Con):=[]
def exts:List (Nat×Ext):=[]
def h:List (Nat×Nat×Hint):=[]
noncomputable def e (M:Nat):Env:=env cons exts h M
def s (M:Nat) (p0:D):Option D:=
 (some (D.agg (p0.parts.set 2 (dS (bs [])))))
theorem run (M:Nat) (p0:D):callS (e M) (tblOf []) 12 (.fn 41) [.d (.struct [3,9,9,4,3,37]) p0] [] (fun v H=>finish ty [39] v H)=s M p0:=by kernel_rfl
def c:Con:={ run:=fun ds=>match ds with | [p0]=>s FUEL p0 | _=>none }
theorem ok:ConOk (41,c):=mkC Tryz.f41 [(.struct [3,9,9,4,3,37])] [39] (by kernel_rfl) (by kernel_rfl) (by kernel_rfl) (by kernel_rfl) allNil allNil AllOk.nil fun a=>run FUEL a.1
end F41
namespace F116
def cons:List (Nat×Con):=[(102,F102.c)]
def exts:List (Nat×Ext):=[]
def h:List (Nat×Nat×Hint):=[]
noncomputable def e (M:Nat):Env:=env cons exts h M
def s (M:Nat) (p0:ByteArray) (p1:ByteArray):Option D:=
 (bd (F102.s FUEL p0 p1) fun r1=>(cond r1.b (some (di (-1))) (bd (F102.s FUEL p1 p0) fun r2=>(cond r2.b (some (di 1)) (some (di 0))))))
theorem run (M:Nat) (p0:ByteArray) (p1:ByteArray):callS (e M) (tblOf []) 12 (.fn 116) [.d .str (dS p0),.d .str (dS p1)] [] (fun v H=>finish ty [3] v H)=s M p0 p1:=by kernel_rfl
def c:Con:={ run:=fun ds=>match ds with | [p0,p1]=>s FUEL p0.s p1.s | _=>none,plain:=true }
theorem ok:ConOk (116,c):=mkC Tryz.f116 [.str,.str] [3] (by kernel_rfl) (by kernel_rfl) (by kernel_rfl) (by kernel_rfl) (allCons F102.ok allNil) allNil AllOk.nil fun a=>run FUEL a.1 a.2.1
end F116
end Go.AM.SZ
