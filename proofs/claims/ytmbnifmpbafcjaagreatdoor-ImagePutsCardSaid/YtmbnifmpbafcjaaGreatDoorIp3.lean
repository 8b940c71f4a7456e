/- Part 3 of the proof: the abstract machine, what the functions compute, and plain laws over that. -/
import Derived.Test.YtmbnifmpbafcjaaGreatDoorIp2
set_option linter.all false
set_option linter.unusedSimpArgs false
set_option linter.unusedVariables false
set_option linter.unusedSectionVars false
namespace Go.AM
open Go Go.RowKit
section
variable {P:Program} {ty:Nat→K} {cd:Cd} {X:List Nat} {B0:Nat} {w0:World}
theorem rep_int {M:Mem} {d:D} {k:IntKind} {v:Value} (h:Rep ty M d (.int k) v):v = .int k d.i:=by
 cases d<;>simp_all [Rep,D.i,K.isAgg]
theorem rep_str {M:Mem} {d:D} {v:Value} (h:Rep ty M d .str v):v = .string d.s:=by
 cases d<;>simp_all [Rep,D.s,K.isAgg]
theorem rep_bool {M:Mem} {d:D} {v:Value} (h:Rep ty M d .bool v):v = .bool d.b:=by
 cases d<;>simp_all [Rep,D.b,K.isAgg]
theorem binD_ok (T:TyOk P ty) {M:Mem} {op:BinOp} {t:Nat} {κx κy:K} {a b:D} {x y:Value} {r:D} (hx:Rep ty M a κx x) (hy:Rep ty M b κy y) (h:binD ty op (ty t) κx κy a b=some r) (xo yo:Operand) (w:World) :
  (do eqGuard op t xo yo x y;binOp op t x y:Sem Value).run P w = .ok (sval r) w∧Rep ty M r (binK op κx) (sval r):=by
 unfold binD at h
 split at h
 ·rename_i k k'
  have h1:=rep_int hx
  have h2:=rep_int hy
  subst h1 h2
  split at h
  ·have:=shiftBin_ok (P:=P) (ty:=ty) (k':=k') h t w
   exact⟨by simp only[run_bind,eqGuard_int,this.1],this.2 M⟩
  ·rename_i hs
   split at h
   ·rename_i hk
    subst hk
    have:=intBin_ok (P:=P) (ty:=ty) h (by simpa using hs) t w
    exact⟨by simp only[run_bind,eqGuard_int,this.1],this.2 M⟩
   ·simp at h
 ·have h1:=rep_str hx
  have h2:=rep_str hy
  subst h1 h2
  have:=strBin_ok (P:=P) (ty:=ty) h t w
  exact⟨by simp only[run_bind,eqGuard_str,this.1],this.2 M⟩
 ·rename_i hne1 hne2
  split at h
  ·rename_i hc
   obtain⟨rfl,rfl,hc⟩:=hc
   have hk:∀k,ty t≠.int k:=fun k hk=>hne1 k k hk hk
   have hs:ty t≠.str:=fun hk=>hne2 hk hk
   split at h
   ·split at h
    ·rename_i r' he
     simp only[Option.some.injEq] at h
     subst h
     exact⟨(eqBin_ok T hx hy hc he hk hs xo yo w).1,by simp[Rep,binK,sval]⟩
    ·simp at h
   ·split at h
    ·rename_i r' he
     simp only[Option.some.injEq] at h
     subst h
     exact⟨(eqBin_ok T hx hy hc he hk hs xo yo w).2,by simp[Rep,binK,sval]⟩
    ·simp at h
   ·simp at h
  ·simp at h
theorem nilOp_ok {x:Operand} {b:D} (h:nilOp x=some b) (a:Act):(b = .slice false []∧a.eval x = .slice none 0 0)∨(b = .nilPtr∧a.eval x = .pointer none)∨(b = .nilFunc∧a.eval x = .nilFunc)∨(b = .nilMap∧a.eval x = .map none):=by
 unfold nilOp at h
 split at h<;>simp at h<;>subst h<;>simp[Act.eval]
theorem nilcmp {t:Nat} {x y:Value} {res:Bool} {w:World} (hx:(∃a n c,x = .slice a n c)∨(∃a,x = .pointer a)∨(∃f a c,x = .func f a c)∨(∃b,x = .map b))
  (h:∀n,(Op.equalIn (n+1) t x y).run P w = .ok res w) (xo yo:Operand) (op:BinOp) (hop:op = .eql∨op = .neq) :
  (do eqGuard op t xo yo x y;binOp op t x y:Sem Value).run P w = .ok (.bool (if op = .eql then res else !res)) w:=by
 have he:(Op.equal t x y).run P w = .ok res w:=h 9999
 have hg:(eqGuard op t xo yo x y).run P w = .ok () w:=by
  rcases hx with ⟨a,n,c,rfl⟩ | ⟨a,rfl⟩ | ⟨f,a,c,rfl⟩ | ⟨b,rfl⟩<;>rcases hop with rfl | rfl<;>simp[eqGuard,run_pure]
 rw[run_bind,hg]
 simp only[]
 rcases hx with ⟨a,n,c,rfl⟩ | ⟨a,rfl⟩ | ⟨f,a,c,rfl⟩ | ⟨b,rfl⟩<;>rcases hop with rfl | rfl<;>(simp only[binOp,run_bind,he];rfl)
section ops
variable {R:Type} {E:Env} {hint:Hint} {μ:List Loc} {H:List AObj} {w:World} {regs:List V} {a:Act} {o:Oper} {k:V→Eff→Option R} {r:R} {next:Act→World→Prop} {Q:Exit→Act→World→Prop}
variable (T:TyOk P E.ty) (h:HOk E.ty P.cellsOf E.rnd X B0 w0 μ H w) (hr:Regs P E.ty (M_ X μ H w) μ regs a.tmps) (hn:Nexts P E.ty E.rnd X B0 w0 μ H w a o.dst k r next)
include T h hr hn
theorem op_binOp {op:BinOp} {t u:Nat} {x y:Operand} (ho:o.op = .binOp op t x y u) (he:evOp E hint H regs o.type (.binOp op t x y u) k=some r):o.wp P a w next Q:=by
 simp only[evOp] at he
 have hvx:=val_ok hr (E.ty t) x
 have hvy:=val_ok hr (E.ty u) y
 split at he
 ·
  rename_i b hnil
  have hb:=nilOp_ok hnil a
  split at he
  ·rename_i hkd
   have hx:=kindIs_ok h hvx hkd
   have hgood:=kindIs_good hkd hx
   have hu:=under_of T hgood
   generalize hv:val regs (E.ty t) x=v at hx he hkd
   have hfin:∀res:Bool,eqNil H v b=some res→((∃a' n c,a.eval x = .slice a' n c)∨(∃a',a.eval x = .pointer a')∨(∃f a' c,a.eval x = .func f a' c)∨(∃b,a.eval x = .map b)) →
     (∀n,(Op.equalIn (n+1) t (a.eval x) (a.eval y)).run P w = .ok res w)→o.wp P a w next Q:=by
    intro res hres hsh hrun
    rw[hres] at he
    split at he
    ·rename_i r' heq
     simp only[Option.some.injEq] at heq
     subst heq
     refine wp_value (x:=.bool res) (w':=w) ?_ (hn.same h he (.inr ⟨.bool,by simp[RV,Rep]⟩))
     have:=nilcmp hsh hrun x y .eql (.inl rfl)
     simp only[execOp,ho]
     rw[run_bind,this];rfl
    ·rename_i r' heq
     simp only[Option.some.injEq] at heq
     subst heq
     refine wp_value (x:=.bool !res) (w':=w) ?_ (hn.same h he (.inr ⟨.bool,by simp[RV,Rep]⟩))
     have:=nilcmp hsh hrun x y .neq (.inr rfl)
     simp only[execOp,ho]
     rw[run_bind,this];rfl
    ·simp at he
   have hsl:∀e a' n c,E.ty t = .slice e→a.eval x = .slice a' n c→a.eval y = .slice none 0 0→eqNil H v b=some a'.isNone→o.wp P a w next Q:=by
    intro e a' n c hk hx hy hres
    refine hfin _ hres (.inl ⟨a',n,c,hx⟩) (fun m=>?_)
    simp only[hx,hy,Op.equalIn]
    simp only[run_bind,run_underlying T (under_slice T hk)]
    cases a'<;>simp[run_pure]
   cases hres:eqNil H v b with
   | none=>rw[hres] at he;split at he<;>simp_all
   | some res=>
    have hres':=hres
    unfold eqNil at hres
    split at hres
    all_goals try (simp at hres;done)
    all_goals (simp only[RV] at hx;simp only[reduceCtorEq,false_and,and_true,true_and,false_or,or_false] at hb)
    ·
     rename_i e d
     obtain⟨hke,hx⟩:=hx
     simp only[Option.some.injEq] at hres
     cases d with
     | slice nn ds=>
      simp only[Rep] at hx
      obtain⟨e',ad,cap,h1,hx,_,h2,_⟩:=hx
      refine hsl e' ad _ _ h1 hx hb ?_
      rw[hres',←hres,D.nn,h2];cases ad<;>simp
     | agg ds=>simp only[Rep] at hx;rw[←hke] at hx;simp[K.isAgg] at hx
     | tup _=>simp only[Rep] at hx
     | _=>simp only[Rep] at hx;rw[←hke] at hx;simp at hx
    ·rename_i b' off len
     obtain⟨l,n,e,hμ,hl,hk,_,hx⟩:=hx
     split at hres
     ·rename_i e' own nn ds hH
      simp only[Option.some.injEq] at hres
      have hobj:=h.obj b' l _ hμ hH
      simp only[ObjOk] at hobj
      obtain⟨_,hlnn,_,hobj⟩:=hobj
      rcases hx with ⟨_,_,a',hx,ha'⟩ | ⟨hvirt,c,hx,_⟩ | ⟨hvirt,_,_,ad,hx⟩
      ·refine hsl e a' 0 0 hk hx hb ?_
       rw[hres',←hres,←hlnn,←ha'];cases a'<;>rfl
      ·rw[if_neg (by simp[hvirt])] at hobj
       refine hsl e _ _ _ hk hx hb ?_
       rw[hres',←hres,hobj.1];rfl
      ·rw[if_neg (by simp[hvirt])] at hobj
       refine hsl e _ _ _ hk hx hb ?_
       rw[hres',←hres,hobj.1];rfl
     ·simp at hres
    ·obtain⟨hk,ad,cs,hx,_⟩:=hx
     refine hsl _ _ _ _ hk hx hb ?_
     rw[hres',←hres];rfl
    ·obtain⟨⟨e,hk,_⟩,l,_,_,_,_,hx⟩:=hx
     rw[hk] at hu
     simp only[descOk] at hu
     refine hfin _ hres' (.inr (.inl ⟨_,hx⟩)) (fun m=>?_)
     simp only[Option.some.injEq] at hres
     subst hres
     simp only[hx,hb,Op.equalIn]
     simp only[run_bind,run_underlying T hu,run_pure]
    ·obtain⟨⟨e,hk,_⟩,ad,y',hx,_⟩:=hx
     rw[hk] at hu
     simp only[descOk] at hu
     refine hfin _ hres' (.inr (.inl ⟨_,hx⟩)) (fun m=>?_)
     simp only[Option.some.injEq] at hres
     subst hres
     simp only[hx,hb,Op.equalIn]
     simp only[run_bind,run_underlying T hu,run_pure]
    ·obtain⟨hk,xs,ys,hx,_⟩:=hx
     rw[hk] at hu
     obtain⟨_,_,_,hu⟩:=hu
     refine hfin _ hres' (.inr (.inr (.inl ⟨_,_,_,hx⟩))) (fun m=>?_)
     simp only[Option.some.injEq] at hres
     subst hres
     simp only[hx,hb,Op.equalIn]
     simp only[run_bind,run_underlying T hu,run_pure]
    ·obtain⟨l,a',e,_,_,hk,hx⟩:=hx
     rw[hk] at hu
     obtain⟨hu,_⟩:=hu
     refine hfin _ hres' (.inr (.inr (.inr ⟨_,hx⟩))) (fun m=>?_)
     simp only[Option.some.injEq] at hres
     subst hres
     simp only[hx,hb,Op.equalIn]
     simp only[run_bind,run_underlying T hu,run_pure]
  ·simp at he
 ·split at he
  ·rename_i κx d1 κy d2 h1 h2
   rw[h1] at hvx
   rw[h2] at hvy
   replace hvx:=hvx.resolve_left (by simp)
   replace hvy:=hvy.resolve_left (by simp)
   obtain⟨κ1,hvx⟩:=hvx
   obtain⟨κ2,hvy⟩:=hvy
   simp only[RV] at hvx hvy
   obtain⟨rfl,hvx⟩:=hvx
   obtain⟨rfl,hvy⟩:=hvy
   split at he
   ·rename_i res hres
    obtain⟨e1,e2⟩:=binD_ok T hvx hvy hres x y w
    refine wp_value (x:=sval res) (w':=w) ?_ (hn.same h he (.inr ⟨_,by simp only[RV];exact⟨rfl,e2⟩⟩))
    simp only[execOp,ho]
    rw[run_bind,e1]
    rfl
   ·simp at he
  ·simp at he
theorem op_unOp {op:UnOp} {t:Nat} {x:Operand} (ho:o.op = .unOp op t x) (he:evOp E hint H regs o.type (.unOp op t x) k=some r):o.wp P a w next Q:=by
 simp only[evOp] at he
 have hv:=val_ok hr .bad x
 split at he
 ·rename_i κ d hb
  rw[hb] at hv
  replace hv:=hv.resolve_left (by simp)
  obtain⟨κ0,hv⟩:=hv
  simp only[RV] at hv
  obtain⟨rfl,hv⟩:=hv
  split at he
  ·rename_i res hres
   unfold unD at hres
   split at hres
   ·simp only[Option.some.injEq] at hres;subst hres
    have:=rep_bool hv
    refine wp_value (x:=.bool !d.b) (w':=w) (by simp[execOp,ho,this,Op.unary,run_pure]) (hn.same h he (.inr ⟨.bool,by simp[RV,Rep]⟩))
   ·rename_i k'
    simp only[Option.some.injEq] at hres;subst hres
    have:=rep_int hv
    refine wp_value (x:=.int k' (k'.wrap (0-d.i))) (w':=w) (by simp[execOp,ho,this,Op.unary,Op.intArith,run_pure]) (hn.same h he (.inr ⟨.int k',by simp[RV,Rep]⟩))
   ·rename_i k'
    simp only[Option.some.injEq] at hres;subst hres
    have:=rep_int hv
    refine wp_value (x:=_) (w':=w) (by simp only[execOp,ho,this,Op.unary,Op.intBits];rfl) (hn.same h he (.inr ⟨.int k',by simp[RV,Rep]⟩))
   ·simp at hres
  ·simp at he
 ·simp at he
end ops
end
end Go.AM
namespace Go.AM
open Go Go.RowKit
section
variable {P:Program} {ty:Nat→K} {cd:Cd} {X:List Nat} {B0:Nat} {w0:World}
theorem Reps.drop_take {sz:Nat→Nat} (hs:SzOk ty sz) {M:Mem} {ds:List D} {e:Nat} (he:ty e≠.bad) {cs:List Value} (h:Reps ty M ds (List.replicate ds.length (ty e)) cs) {i n:Nat} (hi:i+n≤ds.length) :
  ∃c1 c c2,cs=c1++c++c2∧c1.length=i*sz e∧c.length=n*sz e∧Reps ty M ((ds.drop i).take n) (List.replicate n (ty e)) c∧Reps ty M (ds.take i) (List.replicate i (ty e)) c1∧Reps ty M (ds.drop (i+n)) (List.replicate (ds.length-(i+n)) (ty e)) c2:=by
 have e1:ds=ds.take i++((ds.drop i).take n++ds.drop (i+n)):=by
  rw[←List.drop_drop,List.take_append_drop,List.take_append_drop]
 have hl:ds.length=i+(n+(ds.length-(i+n))):=by omega
 rw[hl,←List.replicate_append_replicate,←List.replicate_append_replicate] at h
 conv at h=>arg 3;rw[e1]
 obtain⟨κ1,κ2,c1,c2,hk,rfl,h1,h2⟩:=Reps.split h
 obtain⟨κ3,κ4,c3,c4,hk2,rfl,h3,h4⟩:=Reps.split h2
 have l1:=Reps.length h1
 have l3:=Reps.length h3
 simp at l1 l3
 have hκ1:κ1=List.replicate i (ty e):=by
  have:=congrArg (List.take i) hk
  rw[List.take_left' (by simp)] at this
  rw[List.take_left' (by omega)] at this
  exact this.symm
 subst hκ1
 have hk':=List.append_cancel_left hk
 subst hk'
 have hκ3:κ3=List.replicate n (ty e):=by
  have:=congrArg (List.take n) hk2
  rw[List.take_left' (by simp)] at this
  rw[List.take_left' (by omega)] at this
  exact this.symm
 subst hκ3
 have hk'':=List.append_cancel_left hk2
 subst hk''
 have s1:=(Reps.size hs _ _ _ h1).2 (List.replicate i e) (by simp)
 have s3:=(Reps.size hs _ _ _ h3).2 (List.replicate n e) (by simp)
 exact⟨c1,c3,c4,by simp,by simpa using s1,by simpa using s3,h3,h1,h4⟩
def PM (X:List Nat) (st:Bool) (w:World) (μ:List Loc) (H:List AObj):Mem:=memOf w (X++if st=true then owned μ H else [])
theorem PM_le {st:Bool} {w:World} {μ:List Loc} {H:List AObj}:(M_ X μ H w).le (PM X st w μ H):=by
 cases st
 ·exact memOf_le (fun _ _ _=>rfl) (fun b hb=>.inl (by simp at hb;exact List.mem_append.2 (.inl hb)))
 ·exact Mem.le_refl _
theorem sref_rep (T:TyOk P ty) {μ:List Loc} {H:List AObj} {w:World} (h:HOk ty P.cellsOf cd X B0 w0 μ H w) {b off len e:Nat} {own nn:Bool} {ds:List D} {κ:K} {x:Value} {M:Mem} {st:Bool}
  (hx:RV ty P.cellsOf M μ (.sref b off len) κ x) (hH:H[b]? = some (.row e own nn ds)) (hst:(st&&own)=false):κ = .slice e∧Rep ty (PM X st w μ H) (.slice nn ((ds.drop off).take len)) κ x∧off+len≤ds.length∧ty e≠.bad ∧
   Reps ty (M_ X μ H w) ((ds.drop off).take len) (List.replicate len (ty e)) (match x with | .slice (some ad) _ _=>if len=0 then [] else (match w.heap[ad.block]? with | some (.cells cs _ _)=>(cs.toList.drop ad.off).take (len*P.cellsOf e) | _=>[]) | _=>[]):=by
 simp only[RV] at hx
 obtain⟨l,n,e0,hμ,hl,hk,hlen,hx⟩:=hx
 obtain⟨rfl,rfl⟩:=row_loc h hH hμ hl
 have hobj:=h.obj b l _ hμ hH
 have hlt:((ds.drop off).take len).length=len:=by simp;omega
 have hne:ty e0≠.bad:=by simp only[ObjOk] at hobj;exact hobj.2.2.1
 simp only[Rep,hlt]
 rcases hx with ⟨hvirt,rfl,a,rfl,ha⟩ | ⟨hvirt,c,rfl,hc,hoc,hreach⟩ | ⟨hvirt,rfl,hreach,ad,rfl⟩
 ·refine⟨hk,⟨e0,a,0,hk,rfl,Nat.le_refl _,?_,fun _=>rfl,.inl (by simp)⟩,hlen,hne,?_⟩
  ·simp only[ObjOk] at hobj
   rw[←hobj.2.1,ha]
  ·cases a<;>simp[Reps]
 ·have hb:=hobj
  simp only[ObjOk] at hb
  obtain⟨_,_,_,hb⟩:=hb
  rw[if_neg (by simp[hvirt])] at hb
  obtain⟨hnn,hcap,cs,et,fz,pre,mid,post,h1,h2,h3,h4,h5,h6⟩:=hb
  obtain⟨c1,cm,c2,e1,l1,l2,r1,_,_⟩:=Reps.drop_take T.szOk hne h4 hlen
  refine⟨hk,⟨e0,_,c,hk,rfl,hc,by simp[hnn],by simp,.inr ⟨_,cm,rfl,⟨rfl,fun i v hv=>?_⟩,Reps.mono ty PM_le _ _ _ r1⟩⟩,hlen,hne,?_⟩
  ·have hcell:=block_cells h1 (c1:=pre++c1) (y:=cm) (c2:=c2++post) (by rw[h2,e1];simp) i v hv
   have hcell':w.cell? ⟨l.blk,l.base+off*P.cellsOf e0+i,none⟩=some v:=by simpa[h3,l1,Nat.add_assoc] using hcell
   have hX:l.blk∉X:=fun hm=>by
    have h1:=h.resv _ hm
    have h2:=h.low b l.blk ⟨l,_,hμ,hH,by simp[usesB,hvirt]⟩
    omega
   simp only[PM,memOf]
   rw[if_neg]
   ·exact hcell'
   ·cases st with
    | false=>simpa using hX
    | true=>
     have ho:own=false:=by simpa using hst
     subst ho
     simp only[if_true]
     intro hm
     rcases List.mem_append.1 hm with hm | hm
     ·exact hX hm
     obtain⟨j,hj⟩:=mem_owned.1 hm
     have:=h.inj j b _ hj ⟨l,_,hμ,hH,by simp[usesB,hvirt]⟩
     subst this
     obtain⟨l',o',g1,g2,g3⟩:=hj
     rw[hH] at g2
     simp only[Option.some.injEq] at g2
     subst g2
     simp[ownB] at g3
  ·by_cases h0:len=0
   ·subst h0
    have:cm=[]:=by apply List.eq_nil_of_length_eq_zero;simp[l2]
    subst this
    simpa using r1
   ·simp only[h0,if_false,h1]
    have:(cs.toList.drop (l.base+off*P.cellsOf e0)).take (len*P.cellsOf e0)=cm:=by
     rw[h2,e1,←h3,←l1,←l2]
     simp[←List.append_assoc]
     rw[show pre++c1++cm++c2++post=(pre++c1)++(cm++(c2++post)) by simp,List.drop_left' (by simp),List.take_left' rfl]
    rw[this];exact r1
 ·have hb:=hobj
  simp only[ObjOk] at hb
  obtain⟨_,_,_,hb⟩:=hb
  rw[if_neg (by simp[hvirt])] at hb
  refine⟨hk,⟨e0,some ad,0,hk,rfl,Nat.le_refl _,by simp[hb.1],fun h=>by simp at h,.inl (by simp)⟩,hlen,hne,by simp[Reps]⟩
mutual
theorem pure_ok (T:TyOk P ty) {μ:List Loc} {H:List AObj} {w:World} (h:HOk ty P.cellsOf cd X B0 w0 μ H w) {st:Bool} {M:Mem} (hM:M.le (PM X st w μ H)):∀(u:V) (κ:K) (x:Value) (d:D),RV ty P.cellsOf M μ u κ x→κ≠.bad→V.pure st H u=some d→Rep ty (PM X st w μ H) d κ x
 | .d κ' y,κ,x,d,hx,_,hp=>by
  simp only[V.pure,Option.some.injEq] at hp;subst hp
  simp only[RV] at hx
  exact Rep.mono ty hM _ _ _ hx.2
 | .agg κ' vs,κ,x,d,hx,_,hp=>by
  simp only[V.pure] at hp
  simp only[RV] at hx
  obtain⟨rfl,ha,cs,rfl,hx⟩:=hx
  split at hp
  ·rename_i ds hds
   simp only[Option.some.injEq] at hp;subst hp
   simp only[Rep]
   exact⟨ha,cs,rfl,pureL_ok T h hM vs _ _ ds hx hds⟩
  ·simp at hp
 | .tup vs,κ,x,d,hx,hb,hp=>by simp only[RV] at hx;exact absurd hx.1 hb
 | .dtup κs y,κ,x,d,hx,hb,hp=>by simp only[RV] at hx;exact absurd hx.1 hb
 | .sref b off len,κ,x,d,hx,_,hp=>by
  simp only[V.pure] at hp
  split at hp
  ·rename_i e own' nn ds hH
   cases hc:(st&&own') with
   | true=>rw[hc] at hp;simp at hp
   | false=>
    rw[hc] at hp
    simp only[cond_false,Option.some.injEq] at hp;subst hp
    exact(sref_rep T h hx hH hc).2.1
  ·simp at hp
 | .lit e ds,κ,x,d,hx,_,hp=>by
  simp only[V.pure,Option.some.injEq] at hp;subst hp
  simp only[RV] at hx
  obtain⟨hk,ad,cs,rfl,hat,hreps⟩:=hx
  simp only[Rep]
  exact⟨e,some ad,ds.length,hk,rfl,Nat.le_refl _,rfl,by simp,.inr ⟨ad,cs,rfl,hat.mono hM,Reps.mono ty hM _ _ _ hreps⟩⟩
 | .ptr b p κ',κ,x,d,hx,_,hp=>by simp[V.pure] at hp
 | .cptr κ' y,κ,x,d,hx,_,hp=>by simp[V.pure] at hp
 | .func f a c,κ,x,d,hx,_,hp=>by simp[V.pure] at hp
 | .iface t u,κ,x,d,hx,_,hp=>by
  simp only[V.pure] at hp
  simp only[RV] at hx
  obtain⟨hm,hni,y,rfl,hx⟩:=hx
  split at hp
  ·rename_i z hz
   simp only[Option.some.injEq] at hp;subst hp
   simp only[Rep]
   refine⟨hm,hni,y,rfl,?_⟩
   exact pure_ok T h hM u _ _ z hx (fun hb=>by rw[hb] at hni;simp[notIface] at hni) hz
  ·simp at hp
 | .map b,κ,x,d,hx,_,hp=>by simp[V.pure] at hp
 | .iter b,κ,x,d,hx,_,hp=>by simp[V.pure] at hp
 | .yield b,κ,x,d,hx,_,hp=>by simp[V.pure] at hp
 | .undef,κ,x,d,hx,_,hp=>by simp[V.pure] at hp
theorem pureL_ok (T:TyOk P ty) {μ:List Loc} {H:List AObj} {w:World} (h:HOk ty P.cellsOf cd X B0 w0 μ H w) {st:Bool} {M:Mem} (hM:M.le (PM X st w μ H)):∀(us:List V) (κs:List K) (cs:List Value) (ds:List D),RVs ty P.cellsOf M μ us κs cs→V.pureL st H us=some ds→Reps ty (PM X st w μ H) ds κs cs
 | [],κs,cs,ds,hx,hp=>by
  simp only[V.pureL,Option.some.injEq] at hp;subst hp
  simpa only[RVs,Reps] using hx
 | u::us,κs,cs,ds,hx,hp=>by
  simp only[V.pureL] at hp
  simp only[RVs] at hx
  obtain⟨κ,κs',x,rest,rfl,rfl,hb,h1,h2⟩:=hx
  split at hp
  ·rename_i d hd
   split at hp
   ·rename_i ds' hds'
    simp only[Option.some.injEq] at hp;subst hp
    simp only[Reps]
    exact⟨κ,κs',x,rest,rfl,rfl,pure_ok T h hM u κ x d h1 hb hd,pureL_ok T h hM us κs' rest ds' h2 hds'⟩
   ·simp at hp
  ·simp at hp
end
theorem pureEach_ok (T:TyOk P ty) {μ:List Loc} {H:List AObj} {w:World} (h:HOk ty P.cellsOf cd X B0 w0 μ H w) {st:Bool} {M:Mem} (hM:M.le (PM X st w μ H)):∀(us:List V) (ts:List Nat) (xs:List Value) (ds:List D),
  RVt ty P.cellsOf M μ us xs→allKinds ty H us ts=true→V.pureL st H us=some ds→Each ty (PM X st w μ H) ds (ts.map ty) xs
 | [],ts,xs,ds,hx,hk,hp=>by
  simp only[V.pureL,Option.some.injEq] at hp;subst hp
  cases ts with
  | nil=>simp only[RVt] at hx;subst hx;simp[Each]
  | cons t ts=>simp[allKinds] at hk
 | u::us,ts,xs,ds,hx,hk,hp=>by
  cases ts with
  | nil=>simp[allKinds] at hk
  | cons t ts=>
   simp only[allKinds,Bool.and_eq_true] at hk
   simp only[RVt] at hx
   obtain⟨x,rest,rfl,h1,h2⟩:=hx
   simp only[V.pureL] at hp
   split at hp
   ·rename_i d hd
    split at hp
    ·rename_i ds' hds'
     simp only[Option.some.injEq] at hp;subst hp
     have hkx:=kindIs_ok h h1 hk.1
     simp only[List.map_cons,Each]
     exact⟨ty t,ts.map ty,x,rest,rfl,rfl,pure_ok T h hM u _ x d hkx (kindIs_good hk.1 hkx) hd,pureEach_ok T h hM us ts rest ds' h2 hk.2 hds'⟩
    ·simp at hp
   ·simp at hp
end
end Go.AM
namespace Go.AM
open Go Go.RowKit
section
variable {P:Program} {ty:Nat→K} {cd:Cd} {X:List Nat} {B0:Nat} {w0:World}
theorem newRow_at {μ:List Loc} {H:List AObj} {w w':World} (h:HOk ty P.cellsOf cd X B0 w0 μ H w) (hb:Below w.heap.size w w') {blk base e cap et:Nat} {fz:Nat×Nat} {cs:Array Value} {ds:List D} {pre mid post:List Value} (hpre:pre.length=base)
  (hge:w.heap.size≤blk) (hblk:w'.heap[blk]? = some (.cells cs et fz)) (hne:ty e≠.bad) (hcs:cs.toList=pre++mid++post) (hreps:∀M',(M_ X μ H w).le M'→M'=memOf w' (X++(owned μ H++[blk]))→Reps ty M' ds (List.replicate ds.length (ty e)) mid) (hcap:ds.length≤cap∧cap≤maxInt)
  (hpost:(cap-ds.length)*P.cellsOf e≤post.length) (hfz:∀o,o<cs.size+slk (ty e)→¬(fz.1≤o∧o<fz.2)) (het:etRow ty et e cs.size:=by exact .inl rfl) :
  HOk ty P.cellsOf cd X B0 w0 (μ++[⟨blk,base,cap,.array ds.length e,false,true⟩]) (H++[.row e true true ds]) w' ∧
  Fut X B0 μ.length μ H w (μ++[⟨blk,base,cap,.array ds.length e,false,true⟩]) (H++[.row e true true ds]) w' ∧
  RR ty P.cellsOf (M_ X (μ++[⟨blk,base,cap,.array ds.length e,false,true⟩]) (H++[.row e true true ds]) w') (μ++[⟨blk,base,cap,.array ds.length e,false,true⟩]) (.sref H.length 0 ds.length) (.slice (some ⟨blk,base,none⟩) ds.length cap):=by
 obtain⟨h1,h2⟩:=HOk.newAt' h (l:=⟨blk,base,cap,.array ds.length e,false,true⟩) (o:=.row e true true ds) hb (fun b hb=>by simp[usesB] at hb;omega) (fun M' hM hM2=>by
  refine⟨rfl,rfl,hne,?_⟩
  rw[if_neg (by simp)]
  exact⟨rfl,hcap,cs,et,fz,pre,mid,post,hblk,hcs,hpre,hreps M' hM (by simpa[ownB] using hM2),hpost,hfz,het⟩)
 refine⟨h1,h2,.inr ⟨.slice e,?_⟩⟩
 simp only[RV]
 refine⟨⟨blk,base,cap,.array ds.length e,false,true⟩,ds.length,e,?_,rfl,rfl,by omega,.inr (.inl ⟨rfl,cap,?_,hcap.1,by simp,by simpa using hcap.1⟩)⟩
 ·rw[←h.len];simp
 ·simp
theorem newRow_adopt {μ:List Loc} {H:List AObj} {w w':World} (h:HOk ty P.cellsOf cd X B0 w0 μ H w) (hb:Below w.heap.size w w') {blk e cap et:Nat} {fz:Nat×Nat} {cs:Array Value} {ds:List D} {mid post:List Value}
  (hge:w.heap.size≤blk) (hblk:w'.heap[blk]? = some (.cells cs et fz)) (hne:ty e≠.bad) (hcs:cs.toList=mid++post) (hreps:∀M',(M_ X μ H w).le M'→Reps ty M' ds (List.replicate ds.length (ty e)) mid) (hcap:ds.length≤cap∧cap≤maxInt)
  (hpost:(cap-ds.length)*P.cellsOf e≤post.length) (hfz:∀o,o<cs.size+slk (ty e)→¬(fz.1≤o∧o<fz.2)) (het:etRow ty et e cs.size:=by exact .inl rfl) :
  HOk ty P.cellsOf cd X B0 w0 (μ++[⟨blk,0,cap,.array ds.length e,false,true⟩]) (H++[.row e true true ds]) w' ∧
  Fut X B0 μ.length μ H w (μ++[⟨blk,0,cap,.array ds.length e,false,true⟩]) (H++[.row e true true ds]) w' ∧
  RR ty P.cellsOf (M_ X (μ++[⟨blk,0,cap,.array ds.length e,false,true⟩]) (H++[.row e true true ds]) w') (μ++[⟨blk,0,cap,.array ds.length e,false,true⟩]) (.sref H.length 0 ds.length) (.slice (some ⟨blk,0,none⟩) ds.length cap):=
 newRow_at h hb (pre:=[]) rfl hge hblk hne hcs (fun M' hM _=>hreps M' hM) hcap hpost hfz het
theorem newVirt {μ:List Loc} {H:List AObj} {w w':World} (h:HOk ty P.cellsOf cd X B0 w0 μ H w) (hb:Below w.heap.size w w') {e:Nat} (hne:ty e≠.bad) (a:Option Addr) :
  HOk ty P.cellsOf cd X B0 w0 (μ++[⟨0,0,0,.array 0 e,true,a.isSome⟩]) (H++[.row e true a.isSome []]) w' ∧
  Fut X B0 μ.length μ H w (μ++[⟨0,0,0,.array 0 e,true,a.isSome⟩]) (H++[.row e true a.isSome []]) w' ∧
  RR ty P.cellsOf (M_ X (μ++[⟨0,0,0,.array 0 e,true,a.isSome⟩]) (H++[.row e true a.isSome []]) w') (μ++[⟨0,0,0,.array 0 e,true,a.isSome⟩]) (.sref H.length 0 0) (.slice a 0 0):=by
 obtain⟨h1,h2⟩:=HOk.newAt h (l:=⟨0,0,0,.array 0 e,true,a.isSome⟩) (o:=.row e true a.isSome []) hb (fun b hb=>by simp[usesB] at hb) (fun M' hM=>by
  refine⟨rfl,rfl,hne,?_⟩
  rw[if_pos rfl])
 refine⟨h1,h2,.inr ⟨.slice e,?_⟩⟩
 simp only[RV]
 refine⟨⟨0,0,0,.array 0 e,true,a.isSome⟩,0,e,?_,rfl,rfl,by omega,.inl ⟨rfl,trivial,a,rfl,rfl⟩⟩
 rw[←h.len];simp
theorem below_push {w:World} {o:Obj}:Below w.heap.size w { w with heap:=w.heap.push o }:=
 ⟨rfl,rfl,rfl,by simp,fun i hi=>by simp only[Array.getElem?_push];rw[if_neg (by omega)]⟩
theorem under_some (T:TyOk P ty) {t:Nat} (ht:ty t≠.bad):∃d,P.underlying t=some d:=by
 have h:=under_of T ht
 cases hk:ty t<;>rw[hk] at h<;>simp only[descOk] at h
 all_goals first
  | (obtain⟨_,h,_⟩:=h;exact⟨_,h⟩)
  | (obtain⟨_,_,_,h⟩:=h;exact⟨_,h⟩)
  | (obtain⟨h,_⟩:=h;exact⟨_,h⟩)
  | exact⟨_,h⟩
  | exact absurd hk ht
theorem reps_bytes {M:Mem} {e:Nat} (he:ty e = .int .u8):∀l:List UInt8,Reps ty M (l.map fun b=>.int .u8 b.toNat) (List.replicate l.length (ty e)) (l.map fun b=>Value.int .u8 b.toNat)
 | []=>by simp[Reps]
 | b::l=>by
  simp only[List.map_cons,List.length_cons,List.replicate_succ,Reps]
  exact⟨ty e,_,.int .u8 b.toNat,_,rfl,by simp[Value.cells],by rw[he];simp[Rep],reps_bytes he l⟩
theorem reps_to_bytes {M:Mem} {e:Nat} (he:ty e = .int .u8):∀(ds:List D) (n:Nat) (cs:List Value),Reps ty M ds (List.replicate n (ty e)) cs→cs=ds.map fun x=>.int .u8 x.i
 | [],n,cs,h=>by simp only[Reps] at h;simp[h.2]
 | d::ds,n,cs,h=>by
  simp only[Reps] at h
  obtain⟨κ,κs',x,rest,h1,rfl,hx,h2⟩:=h
  cases n with
  | zero=>simp at h1
  | succ n=>
   simp only[List.replicate_succ,List.cons.injEq] at h1
   obtain⟨rfl,rfl⟩:=h1
   rw[he] at hx
   have:=rep_int hx
   subst this
   have:=reps_to_bytes he ds n rest h2
   subst this
   simp[Value.cells]
theorem run_bytesToString {P:Program} {w:World} (l:List Value) (ns:List Int) (hl:l=ns.map fun n=>.int .u8 n) (s:ByteArray) :
  (forIn (m:=Sem) l s fun c r=>(do
   let .int .u8 n:=c | stuck "bytesToString: byte expected"
   pure (ForInStep.yield (r.push (UInt8.ofNat n.toNat))):Sem (ForInStep ByteArray))).run P w = .ok ⟨(s.data.toList++ns.map fun n=>UInt8.ofNat n.toNat).toArray⟩ w:=by
 subst hl
 induction ns generalizing s with
 | nil=>simp[run_pure]
 | cons n ns ih=>
  simp only[List.map_cons,List.forIn_cons,run_bind,run_pure]
  rw[ih]
  congr 2
  simp[ByteArray.push]
theorem run_choose_cap {q:Question} (hq:q.forced=false) (w:World):(choose q).run P w = .ok (q.cut (w.tape w.drawn q)) { w with drawn:=w.drawn+1 }:=by
 simp[choose,Sem.run,hq]
theorem cap_le (need old e t:Nat) (h:need≤maxLen):(Question.appendCap need old e).cut t≤maxInt:=by
 have h1:(Question.appendCap need old e).cut t=need+t%(2^63-need):=rfl
 have h2:t%(2^63-need)<2^63-need:=Nat.mod_lt _ (by unfold maxLen at h;omega)
 rw[h1];unfold maxInt;omega
theorem cap_ge (need old e t:Nat):need≤(Question.appendCap need old e).cut t:=Nat.le_add_right _ _
section ops
variable {R:Type} {E:Env} {hint:Hint} {μ:List Loc} {H:List AObj} {w:World} {regs:List V} {a:Act} {o:Oper} {k:V→Eff→Option R} {r:R} {next:Act→World→Prop} {Q:Exit→Act→World→Prop}
variable (T:TyOk P E.ty) (h:HOk E.ty P.cellsOf E.rnd X B0 w0 μ H w) (hr:Regs P E.ty (M_ X μ H w) μ regs a.tmps) (hn:Nexts P E.ty E.rnd X B0 w0 μ H w a o.dst k r next)
include T h hr hn
theorem op_convert {s d:Nat} {x:Operand} (ho:o.op = .convert s d x) (he:evOp E hint H regs o.type (.convert s d x) k=some r):o.wp P a w next Q:=by
 simp only[evOp] at he
 have hv:=val_ok hr (E.ty s) x
 cases hok:(E.ty s).ok with
 | false=>rw[hok] at he;simp at he
 | true=>
 rw[hok] at he
 simp only[Bool.not_true,cond_false] at he
 have hs:E.ty s≠.bad:=by intro hb;rw[hb] at hok;simp[K.ok] at hok
 obtain⟨ds,hds⟩:=under_some T hs
 split at he
 ·rename_i k1 d1 k2 hb hk
  rw[hb] at hv
  replace hv:=hv.resolve_left (by simp)
  obtain⟨κ0,hv⟩:=hv
  simp only[RV] at hv
  obtain⟨rfl,hv⟩:=hv
  have hx:=rep_int hv
  refine wp_value (x:=.int k2 (k2.wrap d1.i)) (w':=w) ?_ (hn.same h he (.inr ⟨.int k2,by simp[RV,Rep]⟩))
  simp only[execOp,ho,convert,hx]
  simp only[run_bind,run_underlying T hds,run_underlying T (under_int T hk),Conv.intToInt,run_pure]
 ·rename_i k1 d1 hb hk
  rw[hb] at hv
  replace hv:=hv.resolve_left (by simp)
  obtain⟨κ0,hv⟩:=hv
  simp only[RV] at hv
  obtain⟨rfl,hv⟩:=hv
  have hx:=rep_int hv
  refine wp_value (x:=.string (Utf8.encode d1.i)) (w':=w) ?_ (hn.same h he (.inr ⟨.str,by simp[RV,Rep]⟩))
  simp only[execOp,ho,convert,hx]
  simp only[run_bind,run_underlying T hds,run_underlying T (under_str T hk),Conv.intToString,run_pure]
 ·rename_i d1 hb hk
  rw[hb] at hv
  replace hv:=hv.resolve_left (by simp)
  obtain⟨κ0,hv⟩:=hv
  have hv':=hv
  simp only[RV] at hv
  obtain⟨rfl,hv⟩:=hv
  have hx:=rep_str hv
  refine wp_value (x:=a.eval x) (w':=w) ?_ (hn.same h he (.inr ⟨_,hv'⟩))
  simp only[execOp,ho,convert,hx]
  simp only[run_bind,run_underlying T hds,run_underlying T (under_str T hk),run_pure]
 ·rename_i d1 e hb hk
  rw[hb] at hv
  replace hv:=hv.resolve_left (by simp)
  obtain⟨κ0,hv⟩:=hv
  simp only[RV] at hv
  obtain⟨rfl,hv⟩:=hv
  have hx:=rep_str hv
  split at he
  ·rename_i hke
   cases hmx:decide (d1.s.size≤maxLen) with
   | false=>rw[hmx] at he;simp at he
   | true=>
   rw[hmx] at he
   simp only[cond_true] at he
   simp only[decide_eq_true_eq] at hmx
   have hsz1:P.cellsOf e=1:=by rw[T.szOk e (by rw[hke];simp),hke];rfl
   have hcap:d1.s.size≤(Question.appendCap d1.s.size 0 e).cut (w.tape w.drawn (.appendCap d1.s.size 0 e)):=cap_ge _ _ _ _
   have hcapm:=cap_le d1.s.size 0 e (w.tape w.drawn (.appendCap d1.s.size 0 e)) hmx
   generalize hc:(Question.appendCap d1.s.size 0 e).cut (w.tape w.drawn (.appendCap d1.s.size 0 e))=cap at hcap hcapm
   have hlen:(bytesOf d1.s).length=d1.s.size:=by simp[bytesOf]
   let cs:Array Value:=(d1.s.data.map fun b=>Value.int .u8 b.toNat)++Array.replicate (cap-d1.s.size) (.int .u8 0)
   let w1:World:={ w with drawn:=w.drawn+1,heap:=w.heap.push (.cells cs e) }
   let w2:World:={ w with drawn:=w.drawn+1,heap:=w.heap.push (.cells cs e (cs.size,cs.size+1)) }
   have hfreeze:w1.freeze ⟨w.heap.size,cs.size,none⟩ 1=w2:=by
    simp only[World.freeze,w1,w2]
    simp only[Nat.succ_ne_self,if_false]
    congr 1
    apply Array.ext_getElem?
    intro i
    rw[Array.getElem?_modify,Array.getElem?_push,Array.getElem?_push]
    by_cases hi:i=w.heap.size
    ·subst hi;simp
    ·simp[hi,Ne.symm hi]
   have hrun:(execOp a.eval o).run P w = .ok (.value (.slice (some ⟨w.heap.size,0,none⟩) d1.s.size cap)) w2:=by
    simp only[execOp,ho,convert,hx]
    simp only[run_bind,run_underlying T hds,run_underlying T (under_slice T hk),run_underlying T (under_int T hke),Conv.stringToBytes]
    rw[run_choose_cap (q:=.appendCap d1.s.size 0 e) rfl w]
    simp only[hc]
    simp only[newRow,newObj,Sem.run,run_bind,run_pure,markStringish,shape]
    have hsh:World.shape? { heap:=w.heap.push (.cells cs e),tape:=w.tape,drawn:=w.drawn+1,os:=w.os,output:=w.output } w.heap.size=some (e,cs.size):=by simp[World.shape?]
    simp only[cs] at hsh hfreeze ⊢
    simp only[hsh,run_bind,freeze,Sem.run,run_pure]
    rw[←hfreeze]
   have hb2:Below w.heap.size w w2:=⟨rfl,rfl,rfl,by simp[w2],fun i hi=>by simp only[w2,Array.getElem?_push];rw[if_neg (by omega)]⟩
   obtain⟨h1,h2,h3⟩:=newRow_adopt h hb2 (blk:=w.heap.size) (e:=e) (cap:=cap) (et:=e) (fz:=(cs.size,cs.size+1)) (cs:=cs) (ds:=bytesOf d1.s) (mid:=d1.s.data.toList.map fun b=>Value.int .u8 b.toNat) (post:=List.replicate (cap-d1.s.size) (.int .u8 0))
    (Nat.le_refl _) (by simp[w2]) (by rw[hke];simp) (by simp[cs]) (fun M' _=>by simpa[bytesOf] using reps_bytes hke d1.s.data.toList) ⟨by omega,hcapm⟩ (by simp[hlen,hsz1]) (by intro o ho;rw[hke] at ho;simp[slk] at ho ⊢;omega)
   rw[←hlen] at he hrun
   exact wp_value hrun (hn _ _ _ _ _ he h3 h1 h2)
  ·simp at he
 ·rename_i hk hne1 hne2
  split at he
  ·rename_i e hks
   split at he
   ·rename_i hke
    split at he
    ·rename_i hkd
     have hvk:=kindIs_ok h hv hkd
     split at he
     ·rename_i d1 hp
      have hrep:=pure_ok T h (st:=false) PM_le _ _ _ _ hvk (by simp) hp
      have hfin:∀s':ByteArray,s'=ofBytes d1.elems→(Conv.bytesToString (a.eval x)).run P w = .ok (.string s') w→(∀n,a.eval x≠.string n)→(∀k n,a.eval x≠.int k n)→(∃ad n c,a.eval x = .slice ad n c)→o.wp P a w next Q:=by
       intro s' hs' hrun h1 h2 ⟨ad,n,c,hx⟩
       refine wp_value (x:=.string s') (w':=w) ?_ (hn.same h he (.inr ⟨.str,by simp[RV,Rep,hs']⟩))
       simp only[execOp,ho,convert]
       rw[hx] at hrun ⊢
       simp only[run_bind,run_underlying T (under_slice T hks),run_underlying T (under_str T hk),run_underlying T (under_int T hke),hrun,run_pure]
      cases d1 with
      | slice nn ds=>
       simp only[Rep] at hrep
       obtain⟨e',ad,cap,h1,hx,hcap,hnn,hnil,hd⟩:=hrep
       simp only[K.slice.injEq] at h1
       subst h1
       refine hfin _ rfl ?_ (by rw[hx];simp) (by rw[hx];simp) ⟨_,_,_,hx⟩
       rw[hx]
       rcases hd with rfl | ⟨ad',cs,rfl,hat,hreps⟩
       ·cases ad with
        | none=>simp[Conv.bytesToString,run_pure,ofBytes,D.elems];rfl
        | some ad=>
         simp only[Conv.bytesToString,List.length_nil,loadCells,loadCellsFrom]
         simp only[run_bind,run_pure]
         simp[run_pure,ofBytes,D.elems];rfl
       ·have hcs:=reps_to_bytes hke _ _ _ hreps
        have hload:(loadCells ad' cs.length).run P w = .ok cs.toArray w:=by
         refine run_loadCells hat.1 (fun j v hj=>?_)
         exact memOf_cell (hat.2 j v hj)
        have hlen:cs.length=ds.length:=by rw[hcs];simp
        simp only[Conv.bytesToString]
        rw[←hlen]
        simp only[run_bind,hload]
        rw[←Array.forIn_toList]
        have:=run_bytesToString (P:=P) (w:=w) cs (ds.map D.i) (by rw[hcs];simp[Function.comp_def]) ByteArray.empty
        simp only[List.toArray] at this ⊢
        erw [this]
        simp[run_pure,ofBytes,D.elems,Function.comp_def]
      | agg ds=>simp[Rep,K.isAgg] at hrep
      | tup _=>simp[Rep] at hrep
      | _=>simp[Rep] at hrep
     ·simp at he
    ·simp at he
   ·simp at he
  ·simp at he
 ·simp at he
end ops
end
end Go.AM
namespace Go.AM
open Go Go.RowKit
section
variable {P:Program} {ty:Nat→K} {cd:Cd} {X:List Nat} {B0:Nat} {w0:World}
theorem fold_set (l:List Value):∀(off j:Nat) (c1 m c2:List Value),m.length=l.length→c1.length=off+j →
  (l.zipIdx j).foldl (fun (cs:Array Value) (x:Value×Nat)=>cs.setIfInBounds (off+x.2) x.1) (c1++m++c2).toArray=(c1++l++c2).toArray:=by
 induction l with
 | nil=>intro off j c1 m c2 hm h1;have:m=[]:=by simpa using hm
        subst this;simp
 | cons x l ih=>
  intro off j c1 m c2 hm h1
  cases m with
  | nil=>simp at hm
  | cons y m=>
   simp only[List.zipIdx_cons,List.foldl_cons]
   have e1:(c1++y::m++c2).toArray.setIfInBounds (off+j) x=((c1++[x])++m++c2).toArray:=by
    rw[←h1];simp
   rw[e1,ih off (j+1) (c1++[x]) m c2 (by simpa using hm) (by simp[h1];omega)]
   simp
theorem fill_seg {v:Value} {cells:Array Value} {c1 m c2:List Value} (hc:cells.toList=c1++m++c2) (hm:m.length=v.cells.size) :
  v.cells.zipIdx.foldl (fun cs (x:Value×Nat)=>cs.setIfInBounds (c1.length+x.2) x.1) cells=(c1++v.cells.toList++c2).toArray:=by
 have e:cells=(c1++m++c2).toArray:=by rw[←hc]
 rw[←Array.foldl_toList,Array.toList_zipIdx,e]
 exact fold_set v.cells.toList c1.length 0 c1 m c2 (by simpa using hm) rfl
theorem mapM_run {α β:Type} {P:Program} {w:World} (g:α→Sem β) (f:α→β):∀l:List α,(∀x∈l,(g x).run P w = .ok (f x) w)→(l.mapM g).run P w = .ok (l.map f) w
 | [],_=>by simp[run_pure]
 | x::l,h=>by
  rw[List.mapM_cons]
  simp only[run_bind,h x (by simp),mapM_run g f l (fun y hy=>h y (by simp[hy])),run_pure,List.map_cons]
theorem amapM_run {α β:Type} {P:Program} {w:World} (g:α→Sem β) (f:α→β) (l:Array α) (h:∀x∈l,(g x).run P w = .ok (f x) w):(l.mapM g).run P w = .ok (l.map f) w:=by
 have e:(l.mapM g:Sem _)=(l.toList.mapM g >>= fun r=>pure r.toArray):=by
  rw[Array.mapM_eq_mapM_toList,map_eq_pure_bind]
 rw[e,run_bind,mapM_run g f l.toList (fun x hx=>h x (by simpa using hx))]
 simp only[run_pure]
 congr 1
 apply Array.toList_inj.1;simp
theorem range_add' (a b:Nat):List.range (a+b)=List.range a++(List.range b).map (a+·):=by
 rw[List.range_eq_range',List.range'_eq_append_iff.2 ⟨a,by omega,rfl,rfl⟩]
 simp[List.range_eq_range',List.map_add_range']
theorem zero_cells (z:Array Value) (n:Nat):((List.range (n*z.size)).map fun i=>z[i%z.size]!)=(List.replicate n z.toList).flatten:=by
 induction n with
 | zero=>simp
 | succ n ih=>
  rw[Nat.succ_mul,range_add',List.map_append,ih,List.replicate_succ',List.flatten_append]
  congr 1
  simp only[List.map_map,List.flatten_cons,List.flatten_nil,List.append_nil]
  apply List.ext_getElem
  ·simp
  ·intro i h1 h2
   simp at h1 h2
   have:(n*z.size+i)%z.size=i:=by
    rw[Nat.add_comm,Nat.mul_comm,Nat.add_mul_mod_self_left,Nat.mod_eq_of_lt h2]
   simp[this,h2]
theorem reps_zero {M:Mem} {d:D} {κ:K} {z:Value} (hz:Rep ty M d κ z):∀n,Reps ty M (List.replicate n d) (List.replicate n κ) (List.replicate n z.cells.toList).flatten
 | 0=>by simp[Reps]
 | n+1=>by
  simp only[List.replicate_succ,List.flatten_cons,Reps]
  exact⟨κ,_,z,_,rfl,rfl,hz,reps_zero hz n⟩
section ops
variable {R:Type} {E:Env} {hint:Hint} {μ:List Loc} {H:List AObj} {w:World} {regs:List V} {a:Act} {o:Oper} {k:V→Eff→Option R} {r:R} {next:Act→World→Prop} {Q:Exit→Act→World→Prop}
variable (T:TyOk P E.ty) (h:HOk E.ty P.cellsOf E.rnd X B0 w0 μ H w) (hr:Regs P E.ty (M_ X μ H w) μ regs a.tmps) (hn:Nexts P E.ty E.rnd X B0 w0 μ H w a o.dst k r next)
include T h hr
theorem setParts_ok {κ:K} (place:Nat→Option (Nat×Nat)) (hpl:∀i,i<(κ.kids E.ty).length→place i=some (kOff P.cellsOf κ i,ksz P.cellsOf (κ.kid E.ty i))) :
  ∀(ps:List (Nat×Operand)) (vs vs':List V) (cells:Array Value),RVs E.ty P.cellsOf (M_ X μ H w) μ vs (κ.kids E.ty) cells.toList→setParts E.ty H regs κ ps vs=some vs' →
   ∃cells',Instr.fill place cells (ps.map fun x=>(x.1,a.eval x.2))=some cells'∧RVs E.ty P.cellsOf (M_ X μ H w) μ vs' (κ.kids E.ty) cells'.toList
 | [],vs,vs',cells,hv,hs=>by
  simp only[setParts,Option.some.injEq] at hs;subst hs
  exact⟨cells,rfl,hv⟩
 | (i,x)::ps,vs,vs',cells,hv,hs=>by
  simp only[setParts] at hs
  split at hs
  ·rename_i hc
   simp only[Bool.and_eq_true,decide_eq_true_eq] at hc
   obtain⟨hi,hkd⟩:=hc
   have hx:=kindIs_ok h (val_ok hr (κ.kid E.ty i) x) hkd
   have hg:=kindIs_good hkd hx
   have hlen:=RVs.length hv
   obtain⟨c1,y,c2,e1,hl,h1,_,hy,h2⟩:=RV.part T.szOk hv (i:=i) (by omega) (List.getElem?_eq_getElem hi)
   have hsz:=RV.size T.szOk _ _ _ hx hg
   have hsy:=RV.size T.szOk _ _ _ hy hg
   have hset:=RVs.set h1 hg hx h2 hi (kids_kid (by omega))
   obtain⟨cells2,hf,hv2⟩:=setParts_ok place hpl ps (vs.set i (val regs (κ.kid E.ty i) x)) vs' (c1++(a.eval x).cells.toList++c2).toArray (by simpa using hset) hs
   refine⟨cells2,?_,hv2⟩
   simp only[List.map_cons,Instr.fill,hpl i (by omega)]
   have hcs:cells.size=(c1++y.cells.toList++c2).length:=by rw[←e1];simp
   rw[if_neg (by simp[hsz.1,hcs,←hl];simp[hsy.1])]
   rw[←hl,fill_seg (m:=y.cells.toList) e1 (by simp[hsz.1,hsy.1])]
   exact hf
  ·simp at hs
theorem zero_parts {κ:K} {M:Mem} {z:Value} (hz:Rep E.ty M (zero E.ty κ) κ z) (hκ:κ.isAgg=true):∃cs,z = .agg cs∧RVs E.ty P.cellsOf M μ (spread (zero E.ty κ) (κ.kids E.ty) 0) (κ.kids E.ty) cs.toList:=by
 obtain⟨ds,cs,hd,rfl,hreps⟩:=Rep.isAgg hz hκ
 rw[hd]
 exact⟨cs,rfl,RVs.of_agg hreps⟩
include hn
theorem op_build {t:Nat} {parts:Array (Nat×Operand)} (ho:o.op = .build t parts) (he:evOp E hint H regs o.type (.build t parts) k=some r):o.wp P a w next Q:=by
 simp only[evOp] at he
 split at he
 ·rename_i vs hs
  split at he
  ·rename_i hag
   have ht:E.ty t≠.bad:=by intro hb;rw[hb] at hag;simp[K.isAgg] at hag
   obtain⟨z,hz,hzr⟩:=run_zeroValue T ht w
   obtain⟨cs0,rfl,hrv⟩:=zero_parts T h hr (μ:=μ) (hzr (M_ X μ H w)) hag
   have hfin:∀(place:Nat→Option (Nat×Nat)),(∀i,i<((E.ty t).kids E.ty).length→place i=some (kOff P.cellsOf (E.ty t) i,ksz P.cellsOf ((E.ty t).kid E.ty i))) →
     (∀cells',Instr.fill place cs0 (parts.toList.map fun x=>(x.1,a.eval x.2))=some cells'→(execOp a.eval o).run P w = .ok (.value (.agg cells')) w)→o.wp P a w next Q:=by
    intro place hpl hrun
    obtain⟨cells',hf,hv⟩:=setParts_ok T h hr place hpl parts.toList _ vs cs0 hrv hs
    exact wp_value (hrun cells' hf) (hn.same h he (.inr ⟨_,RV.mkAgg hag hv⟩))
   have hd:=under_of T ht
   cases hk:E.ty t with
   | struct fs=>
    rw[hk] at hd
    obtain⟨fields,hu,hfs,hf⟩:=hd
    have hplaces:(fields.mapM (m:=Sem) fun f=>do pure (f.offset,←sizeOf f.type)).run P w = .ok (fields.map fun f=>(f.offset,P.cellsOf f.type)) w:=by
     refine amapM_run _ (fun f=>(f.offset,P.cellsOf f.type)) fields (fun f hf'=>?_)
     obtain⟨j,hj,hfj⟩:=Array.mem_iff_getElem.1 hf'
     have:=hf j f (by rw[Array.getElem?_eq_getElem hj,hfj])
     simp only[run_bind,run_sizeOf T this.2.2.2,run_pure]
    refine hfin (fun i=>(fields.map fun f=>(f.offset,P.cellsOf f.type))[i]?) (fun i hi=>?_) (fun cells' hfill=>?_)
    ·rw[hk] at hi ⊢
     simp only[K.kids,List.length_map] at hi
     have hl:i<fields.size:=by rw[←hfs] at hi;simpa using hi
     obtain⟨a1,a2,a3,a4⟩:=hf i fields[i] (by simp[hl])
     simp only[Array.getElem?_map,Array.getElem?_eq_getElem hl,Option.map_some,Option.some.injEq,Prod.mk.injEq]
     refine⟨a1,?_⟩
     rw[T.szOk _ a4]
     simp only[K.kid]
     congr 1
     rw[←hfs];simp[List.getD_eq_getElem?_getD,hl]
    ·simp only[execOp,ho,Instr.build]
     simp only[run_bind,hz,run_underlying T hu,hplaces,run_pure,cells_agg]
     have:(parts.map fun (x:Nat×Operand)=>match x with | (i,x)=>(i,a.eval x)).toList=parts.toList.map fun x=>(x.1,a.eval x.2):=by simp
     rw[this,hfill]
     rfl
   | array m e=>
    rw[hk] at hd
    obtain⟨hu,_,hne⟩:=hd
    refine hfin (fun i=>some (i*P.cellsOf e,P.cellsOf e)) (fun i hi=>?_) (fun cells' hfill=>?_)
    ·rw[hk];simp only[kOff,K.kid];rw[T.szOk _ hne]
    ·simp only[execOp,ho,Instr.build]
     simp only[run_bind,hz,run_underlying T hu,run_sizeOf T hne,run_pure,cells_agg]
     have:(parts.map fun (x:Nat×Operand)=>match x with | (i,x)=>(i,a.eval x)).toList=parts.toList.map fun x=>(x.1,a.eval x.2):=by simp
     rw[this,hfill]
     rfl
   | _=>rw[hk] at hag;simp[K.isAgg] at hag
  ·simp at he
 ·simp at he
omit hn in
theorem setElems_ok {e:Nat} (hne:E.ty e≠.bad) (n:Nat) :
  ∀(ps:List (Nat×Operand)) (ds ds':List D) (cells:Array Value),ds.length=n→Reps E.ty (M_ X μ H w) ds (List.replicate n (E.ty e)) cells.toList→setElems E.ty H regs (E.ty e) ps ds=some ds' →
   ∃cells',Instr.fill (fun i=>some (i*P.cellsOf e,P.cellsOf e)) cells (ps.map fun x=>(x.1,a.eval x.2))=some cells'∧ds'.length=n∧Reps E.ty (M_ X μ H w) ds' (List.replicate n (E.ty e)) cells'.toList
 | [],ds,ds',cells,hl,hv,hs=>by
  simp only[setElems,Option.some.injEq] at hs;subst hs
  exact⟨cells,rfl,hl,hv⟩
 | (i,x)::ps,ds,ds',cells,hl,hv,hs=>by
  simp only[setElems] at hs
  split at hs
  ·rename_i hc
   simp only[Bool.and_eq_true,decide_eq_true_eq] at hc
   obtain⟨hi,hkd⟩:=hc
   split at hs
   ·rename_i y hy
    have hx:=kindIs_ok h (val_ok hr (E.ty e) x) hkd
    have hrep:=pure_ok T h (st:=true) (Mem.le_refl _) _ _ _ _ hx hne hy
    change Rep E.ty (M_ X μ H w) y (E.ty e) (a.eval x) at hrep
    subst hl
    obtain⟨c1,y0,c2,e1,h1,⟨κ,hκ,hy0⟩,h2⟩:=Reps.at hv hi
    simp only[List.getElem?_replicate,hi,if_true,Option.some.injEq] at hκ
    subst hκ
    have hset:=Reps.set h1 hrep h2 hi (by simp[hi])
    have hs1:=Rep.size T.szOk _ _ _ hrep
    have hs0:=Rep.size T.szOk _ _ _ hy0
    have hl1:c1.length=i*P.cellsOf e:=by
     have:=(Reps.size T.szOk _ _ _ h1).2 (List.replicate i e) (by simp[Nat.min_eq_left (Nat.le_of_lt hi)])
     simpa using this
    obtain⟨cells2,hf,hl2,hv2⟩:=setElems_ok hne ds.length ps (ds.set i y) ds' (c1++(a.eval x).cells.toList++c2).toArray (by simp) (by simpa using hset) hs
    refine⟨cells2,?_,hl2,hv2⟩
    simp only[List.map_cons,Instr.fill]
    have hcs:cells.size=(c1++y0.cells.toList++c2).length:=by rw[←e1];simp
    have hse:=T.szOk e hne
    rw[if_neg (by have hl1':=hl1;rw[hse] at hl1';simp[hs1,hcs,hse];simp[hs0];omega)]
    rw[←hl1,fill_seg (m:=y0.cells.toList) e1 (by simp[hs1,hs0])]
    exact hf
   ·simp at hs
  ·simp at hs
theorem op_evBS {own:Bool} {t n:Nat} {parts:Array (Nat×Operand)} (ho:o.op = .buildSlice t n parts) (he:evBS E own H regs t n parts k=some r):o.wp P a w next Q:=by
 unfold evBS at he
 split at he
 ·rename_i e hk
  split at he
  ·rename_i ds hs
   cases hn4:(decide (n≤4096)&&(E.ty e).ok) with
   | false=>rw[hn4] at he;simp at he
   | true=>
   rw[hn4] at he
   simp only[Bool.not_true,cond_false] at he
   simp only[Bool.and_eq_true,decide_eq_true_eq] at hn4
   obtain⟨hn4,hok⟩:=hn4
   have hne:E.ty e≠.bad:=by intro hb;rw[hb] at hok;simp[K.ok] at hok
   obtain⟨z,hz,hzr⟩:=run_zeroValue T hne w
   have hzs:=Rep.size T.szOk _ _ _ (hzr (M_ X μ H w))
   have hse:=T.szOk e hne
   have hzs':z.cells.size=P.cellsOf e:=by rw[hzs,hse]
   let cells0:Array Value:=(List.replicate n z.cells.toList).flatten.toArray
   obtain⟨cells',hf,hl,hreps⟩:=setElems_ok T h hr (a:=a) hne n parts.toList (List.replicate n (zero E.ty (E.ty e))) ds cells0 (by simp) (by simpa[cells0] using reps_zero (hzr (M_ X μ H w)) n) hs
   have hbig:¬n*P.cellsOf e>2^24:=by
    obtain⟨i,hi⟩:=T e hne
    have h1:=hi.cells
    have h2:P.cellsOf e=i.size:=by simp[Program.cellsOf,hi.info]
    have:n*P.cellsOf e≤4096*4096:=Nat.mul_le_mul hn4 (by omega)
    omega
   have hpm:(parts.map fun (x:Nat×Operand)=>match x with | (i,x)=>(i,a.eval x)).toList=parts.toList.map fun x=>(x.1,a.eval x.2):=by simp
   have hrun:(execOp a.eval o).run P w = .ok (.value (.slice (some ⟨w.heap.size,0,none⟩) n n)) { w with heap:=w.heap.push (.cells cells' e) }:=by
    simp only[execOp,ho,Instr.buildSlice]
    simp only[run_bind,run_underlying T (under_slice T hk),run_sizeOf T hne,hbig,if_false]
    by_cases h0:n*P.cellsOf e=0
    ·rw[if_pos h0]
     have h00:(List.replicate n z.cells.toList).flatten=[]:=by
      rcases Nat.mul_eq_zero.1 h0 with h1 | h1
      ·subst h1;simp
      ·have:z.cells.toList=[]:=by
        apply List.eq_nil_of_length_eq_zero;simp[hzs',h1]
       simp[this]
     have hc:((Array.range (n*P.cellsOf e)).map fun x=>(#[]:Array Value)[x%(#[]:Array Value).size]!)=cells0:=by
      apply Array.toList_inj.1;simp[cells0,h0,h00]
     simp only[run_bind,run_pure]
     rw[hpm,hc,hf]
     simp only[newRow,newObj,Sem.run,run_bind,run_pure]
    ·rw[if_neg h0]
     have hc:((Array.range (n*P.cellsOf e)).map fun x=>z.cells[x%z.cells.size]!)=cells0:=by
      apply Array.toList_inj.1
      simp only[Array.toList_map,Array.toList_range,cells0]
      rw[←hzs',zero_cells]
     simp only[run_bind,run_pure,hz]
     rw[hpm,hc,hf]
     simp only[newRow,newObj,Sem.run,run_bind,run_pure]
   have hblk:({ w with heap:=w.heap.push (.cells cells' e) }:World).heap[w.heap.size]? = some (.cells cells' e (0,0)):=by simp
   cases own with
   | true=>
    simp only[cond_true] at he
    obtain⟨h1,h2,h3⟩:=newRow_adopt h (below_push (o:=.cells cells' e)) (e:=e) (cap:=n) (et:=e) (fz:=(0,0)) (cs:=cells') (ds:=ds) (mid:=cells'.toList) (post:=[])
     (Nat.le_refl _) hblk hne (by simp) (fun M' hM=>by rw[hl];exact Reps.mono _ hM _ _ _ hreps) (by unfold maxInt;omega) (by simp[hl]) (by simp)
    subst hl
    exact wp_value hrun (hn _ _ _ _ _ he h3 h1 h2)
   | false=>
    simp only[cond_false] at he
    obtain⟨h1,h2⟩:=h.grow (below_push (o:=.cells cells' e))
    refine wp_value hrun (hn _ .none _ _ _ he (.inr ⟨.slice e,?_⟩) h1 h2)
    simp only[RV,hl]
    refine⟨trivial,⟨w.heap.size,0,none⟩,cells'.toList,rfl,⟨rfl,fun i v hv=>?_⟩,Reps.mono _ h2.mem _ _ _ hreps⟩
    simp only[M_,memOf]
    rw[if_neg,cell_of_block hblk]
    ·simpa using hv
    ·intro hm
     rcases List.mem_append.1 hm with hm | hm
     ·have h1:=h.resv _ hm;have h2:=h.size;omega
     obtain⟨j,hj⟩:=mem_owned.1 hm
     have:=h.bound j _ (by obtain⟨l',o',g1,g2,g3⟩:=hj;exact⟨l',o',g1,g2,(own_uses g3).1⟩)
     simp at this
  ·simp at he
 ·simp at he
end ops
end
end Go.AM
namespace Go.AM
open Go Go.RowKit
section
variable {P:Program} {ty:Nat→K} {cd:Cd} {X:List Nat} {B0:Nat} {w0:World}
theorem sliceBound_ok {x:Value} {k:IntKind} {i:Int} {y:Nat} (hx:x = .int k i) (h0:0≤i) (h1:i≤y) (c:BoundsCode) (w:World):(Instr.sliceBound x y c).run P w = .ok i.toNat w:=by
 subst hx
 simp[Instr.sliceBound,asIntOf,run_bind,run_pure,h0,h1]
theorem sliceBounds_ok {isS:Bool} {len cap:Nat} {lo hi mx:Option Value} {l h m:Nat} {w:World}
  (hl:match lo with | some v=>∃k,v = .int k (l:Int) | none=>l=0)
  (hh:match hi with | some v=>∃k,v = .int k (h:Int) | none=>h=len∧mx=none)
  (hm:match mx with | some v=>∃k,v = .int k (m:Int) | none=>m=cap)
  (h1:l≤h) (h2:h≤m) (h3:m≤cap):(Instr.sliceBounds isS len cap lo hi mx).run P w = .ok (l,h,m) w:=by
 have hb:∀{v:Value} {n y:Nat} {c:BoundsCode},(∃k,v = .int k (n:Int))→n≤y→(Instr.sliceBound v y c).run P w = .ok n w:=by
  intro v n y c ⟨k,hv⟩ hn
  simpa using sliceBound_ok (P:=P) hv (by omega) (by omega) c w
 cases lo with
 | none=>
  simp only at hl
  subst hl
  cases hi with
  | none=>
   simp only at hh
   obtain⟨rfl,rfl⟩:=hh
   simp only at hm
   subst hm
   rfl
  | some v=>
   cases mx with
   | none=>simp only at hm;subst hm;simp only[Instr.sliceBounds,run_bind,run_pure,hb hh h2]
   | some v'=>simp only[Instr.sliceBounds,run_bind,run_pure,hb hh h2,hb hm h3]
 | some u=>
  cases hi with
  | none=>
   simp only at hh
   obtain⟨rfl,rfl⟩:=hh
   simp only at hm
   subst hm
   simp only[Instr.sliceBounds,run_bind,run_pure,hb hl h1]
  | some v=>
   cases mx with
   | none=>simp only at hm;subst hm;simp only[Instr.sliceBounds,run_bind,run_pure,hb hh h2,hb hl h1]
   | some v'=>simp only[Instr.sliceBounds,run_bind,run_pure,hb hh h2,hb hm h3,hb hl h1]
theorem wrap_small {n:Int} (h0:0≤n) (h1:n≤(maxLen:Int)):IntKind.i64.wrap n=n:=by
 have hm:(maxLen:Int)=1073741824:=rfl
 rw[hm] at h1
 have e:n%(18446744073709551616:Int)=n:=Int.emod_eq_of_lt h0 (by omega)
 have e1:((2:Int)^64)=18446744073709551616:=by decide
 have e2:((2:Int)^(64-1))=9223372036854775808:=by decide
 simp only[IntKind.wrap,IntKind.signed,IntKind.bits,e1,e2,e]
 rw[if_neg]
 simp;omega
section ops
variable {R:Type} {E:Env} {hint:Hint} {μ:List Loc} {H:List AObj} {w:World} {regs:List V} {a:Act} {o:Oper} {k:V→Eff→Option R} {r:R} {next:Act→World→Prop} {Q:Exit→Act→World→Prop}
variable (T:TyOk P E.ty) (h:HOk E.ty P.cellsOf E.rnd X B0 w0 μ H w) (hr:Regs P E.ty (M_ X μ H w) μ regs a.tmps) (hn:Nexts P E.ty E.rnd X B0 w0 μ H w a o.dst k r next)
include T h hr hn
omit T h hn in
theorem bound_ok {x:Option Operand} {d n:Int} (hb:bound regs d x=some n):match x.map a.eval with | some v=>∃k,v = .int k n | none=>n=d:=by
 cases x with
 | none=>simpa[bound] using hb.symm
 | some x=>simp only[bound] at hb;exact vInt_ok (val_ok hr (.int .i64) x) hb
theorem op_makeSlice {t:Nat} {l c:Operand} (ho:o.op = .makeSlice t l c) (he:evOp E hint H regs o.type (.makeSlice t l c) k=some r):o.wp P a w next Q:=by
 simp only[evOp] at he
 split at he
 ·rename_i e l' c' hk hl hc
  obtain⟨kl,hlv⟩:=vInt_ok (val_ok hr (.int .i64) l) hl
  obtain⟨kc,hcv⟩:=vInt_ok (val_ok hr (.int .i64) c) hc
  cases hb:(decide (0≤l')&&decide (l'≤c')&&decide (c'≤(maxLen:Int))&&(E.ty e).ok) with
  | false=>rw[hb] at he;simp at he
  | true=>
  rw[hb] at he
  simp only[cond_true] at he
  simp only[Bool.and_eq_true,decide_eq_true_eq] at hb
  obtain⟨⟨⟨h0,h1⟩,h2⟩,hok⟩:=hb
  have hne:E.ty e≠.bad:=by intro hb;rw[hb] at hok;simp[K.ok] at hok
  obtain⟨i,hi⟩:=T e hne
  obtain⟨z,hz,hzr⟩:=hi.zero
  have hrz:(zeroValue e).run P w = .ok z w:=by simp[zeroValue,typeInfo,run_bind,program,Sem.run,hi.info,run_pure,hz]
  have hzs:=Rep.size T.szOk _ _ _ (hzr (M_ X μ H w))
  have hse:=T.szOk e hne
  have hbytes:i.bytes*c'.toNat≤4096*1073741824:=Nat.mul_le_mul hi.bytes (by have hm:(maxLen:Int)=1073741824:=rfl;omega)
  let cells:Array Value:=((List.replicate c'.toNat z.cells.toList).flatten).toArray
  have hrun:(execOp a.eval o).run P w = .ok (.value (.slice (some ⟨w.heap.size,0,none⟩) l'.toNat c'.toNat)) { w with heap:=w.heap.push (.cells cells e) }:=by
   have hbig:¬((i.bytes:Int)*c'>2^48):=by
    have e3:((2:Int)^48)=281474976710656:=by decide
    rw[e3]
    have:(i.bytes:Int)*c'=((i.bytes*c'.toNat:Nat):Int):=by
     rw[Int.natCast_mul,Int.toNat_of_nonneg (by omega)]
    rw[this];omega
   have hroom:(askRoom (c'.toNat*i.bytes)).run P w = .ok () w:=by
    unfold askRoom
    split<;>simp[mark,Sem.run,run_pure]
   simp only[execOp,ho,Instr.makeSlice]
   simp only[run_bind,run_underlying T (under_slice T hk),hlv,hcv,asInt,asIntOf,run_pure,typeInfo,program,Sem.run,hi.info,wrap_small h0 (by omega),wrap_small (n:=c') (by omega) h2]
   rw[if_neg (by simp;omega)]
   simp only[run_bind,hroom,run_sizeOf T hne]
   have hsz:z.cells.size=P.cellsOf e:=by rw[hzs,hse]
   by_cases h00:c'.toNat*P.cellsOf e=0
   ·rw[if_pos h00]
    have hnil:(List.replicate c'.toNat z.cells.toList).flatten=[]:=by
     rcases Nat.mul_eq_zero.1 h00 with h1 | h1
     ·rw[h1];simp
     ·have:z.cells.toList=[]:=by
       apply List.eq_nil_of_length_eq_zero;simp[hsz,h1]
      simp[this]
    have hc:((Array.range (c'.toNat*P.cellsOf e)).map fun x=>(#[]:Array Value)[x%(#[]:Array Value).size]!)=cells:=by
     apply Array.toList_inj.1;simp[cells,h00,hnil]
    simp only[run_bind,run_pure]
    rw[hc]
    simp only[newRow,newObj,Sem.run,run_bind,run_pure]
   ·rw[if_neg h00]
    have hc:((Array.range (c'.toNat*P.cellsOf e)).map fun x=>z.cells[x%z.cells.size]!)=cells:=by
     apply Array.toList_inj.1
     simp only[Array.toList_map,Array.toList_range,cells]
     rw[←hsz,zero_cells]
    simp only[run_bind,run_pure,hrz]
    rw[hc]
    simp only[newRow,newObj,Sem.run,run_bind,run_pure]
  have hlen:(List.replicate l'.toNat (zero E.ty (E.ty e))).length=l'.toNat:=by simp
  obtain⟨h1',h2',h3'⟩:=newRow_adopt h (below_push (o:=.cells cells e)) (e:=e) (cap:=c'.toNat) (et:=e) (fz:=(0,0)) (cs:=cells) (ds:=List.replicate l'.toNat (zero E.ty (E.ty e)))
   (mid:=(List.replicate l'.toNat z.cells.toList).flatten) (post:=(List.replicate (c'.toNat-l'.toNat) z.cells.toList).flatten)
   (Nat.le_refl _) (by simp) hne (by
    simp only[cells]
    rw[←List.flatten_append,List.replicate_append_replicate]
    congr 2;congr 1;omega) (fun M' _=>by simpa using reps_zero (hzr M') l'.toNat) (by unfold maxInt;unfold maxLen at h2;simp;omega) (by
    have:∀m,(List.replicate m z.cells.toList).flatten.length=m*z.cells.size:=by intro m;simp
    rw[hlen,this,hzs,←hse];exact Nat.le_refl _) (by simp)
  rw[hlen] at h1' h2' h3'
  exact wp_value hrun (hn _ _ _ _ _ he h3' h1' h2')
 ·simp at he
omit T h hn in
theorem bound_nat {x:Option Operand} {d n:Int} (hb:bound regs d x=some n) (h0:0≤n):match x.map a.eval with | some v=>∃k,v = .int k (n.toNat:Int) | none=>n=d:=by
 have:=bound_ok hr hb
 cases x with
 | none=>exact this
 | some x=>obtain⟨k,hk⟩:=this;exact⟨k,by rw[hk,Int.toNat_of_nonneg h0]⟩
theorem op_slice {t:Nat} {x:Operand} {lo hi mx:Option Operand} (ho:o.op = .slice t x lo hi mx) (he:evSlice H (E.ty t) (val regs (E.ty t) x) regs lo hi mx k=some r):o.wp P a w next Q:=by
 simp only[evSlice] at he
 have hv:=val_ok hr (E.ty t) x
 have hsl:∀{e:Nat},E.ty t = .slice e→∀(nn:Bool) (ds:List D) (l h' m:Int),bound regs 0 lo=some l→bound regs ds.length hi=some h'→bound regs ds.length mx=some m→(mx.isSome=true→hi.isSome=true) →
   0≤l→l≤h'→h'≤m→m≤ds.length→Rep E.ty (M_ X μ H w) (.slice nn ds) (.slice e) (a.eval x) →
   ∃y,(execOp a.eval o).run P w = .ok (.value y) w∧Rep E.ty (M_ X μ H w) (.slice nn ((ds.drop l.toNat).take (h'.toNat-l.toNat))) (.slice e) y:=by
  intro e hk nn ds l h' m hl hh hm hmh h0 h1 h2 h3 hrep
  simp only[Rep] at hrep
  obtain⟨e',ad,cap,hke,hx,hcap,hnn,hnil,hd⟩:=hrep
  simp only[K.slice.injEq] at hke
  subst hke
  have bl:=bound_nat hr hl h0
  have bh:=bound_nat hr hh (by omega)
  have bm:=bound_nat hr hm (by omega)
  let m':Nat:=match mx with | some _=>m.toNat | none=>cap
  have hb:=sliceBounds_ok (P:=P) (isS:=true) (len:=ds.length) (cap:=cap) (lo:=lo.map a.eval) (hi:=hi.map a.eval) (mx:=mx.map a.eval) (l:=l.toNat) (h:=h'.toNat) (m:=m') (w:=w)
   (by cases lo with | none=>simp only[Option.map_none] at bl ⊢;omega | some v=>exact bl)
   (by cases hi with
     | none=>simp only[Option.map_none] at bh ⊢;refine⟨by omega,?_⟩;cases mx with | none=>rfl | some v=>simp at hmh
     | some v=>exact bh)
   (by cases mx with | none=>rfl | some v=>exact bm)
   (by omega) (by cases mx with | none=>simp only[m'];omega | some v=>simp only[m'];omega) (by cases mx with | none=>simp only[m'];omega | some v=>simp only[m'];omega)
  have hne:=under_slice_ne T hk
  have hsb:(Instr.slice t (a.eval x) (lo.map a.eval) (hi.map a.eval) (mx.map a.eval)).run P w = .ok (.slice (if m'=l.toNat then ad else ad.map (·.add (l.toNat*P.cellsOf e))) (h'.toNat-l.toNat) (m'-l.toNat)) w:=by
   rw[hx]
   simp only[Instr.slice,run_bind,run_underlying T (under_slice T hk),hb,run_sizeOf T hne,run_pure]
  have hrun:(execOp a.eval o).run P w = .ok (.value (.slice (if m'=l.toNat then ad else ad.map (·.add (l.toNat*P.cellsOf e))) (h'.toNat-l.toNat) (m'-l.toNat))) w:=by
   have hsa:(Instr.sliceAt t (a.eval x) (lo.map a.eval) (hi.map a.eval) (mx.map a.eval)).run P w=(Instr.slice t (a.eval x) (lo.map a.eval) (hi.map a.eval) (mx.map a.eval)).run P w:=by
    simp only[Instr.sliceAt,run_bind,run_underlying T (under_slice T hk)]
   simp only[execOp,ho,run_bind,hsa,hsb,run_pure]
  refine⟨_,hrun,?_⟩
  have hm'cap:m'≤cap:=by cases mx with | none=>simp only[m'];omega | some v=>simp only[m'];omega
  have hh'm':h'.toNat≤m':=by cases mx with | none=>simp only[m'];omega | some v=>simp only[m'];omega
  have hlen:((ds.drop l.toNat).take (h'.toNat-l.toNat)).length=h'.toNat-l.toNat:=by simp;omega
  simp only[Rep,hlen]
  refine⟨e,_,_,rfl,rfl,by omega,?_,?_,?_⟩
  ·split
   ·exact hnn
   ·cases ad<;>simpa using hnn
  ·intro hz
   have:ad=none:=by split at hz;exact hz;simpa using hz
   have:=hnil this;omega
  ·by_cases h00:h'.toNat-l.toNat=0
   ·left;rw[h00];simp
   ·rcases hd with rfl | ⟨ad',cs,rfl,hat,hreps⟩
    ·simp at h3;omega
    right
    rw[if_neg (by omega)]
    obtain⟨c1,c,c2,e1,l1,l2,r1,_,_⟩:=Reps.drop_take T.szOk hne hreps (i:=l.toNat) (n:=h'.toNat-l.toNat) (by omega)
    rw[e1] at hat
    refine⟨_,c,rfl,?_,r1⟩
    show (M_ X μ H w).at (ad'.add (l.toNat*P.cellsOf e)) c
    rw[addr_add hat.1,←l1]
    exact hat.part
 cases hmh:(mx.isSome&&hi.isNone) with
 | true=>rw[hmh] at he;simp at he
 | false=>
 rw[hmh] at he
 simp only[cond_false] at he
 have hmh':mx.isSome=true→hi.isSome=true:=by cases mx<;>cases hi<;>simp_all
 split at he
 ·
  rename_i d hk hb
  split at he
  ·rename_i hmx
   rw[hb] at hv
   replace hv:=hv.resolve_left (by simp)
   obtain⟨κ0,hv⟩:=hv
   simp only[RV] at hv
   obtain⟨rfl,hv⟩:=hv
   have hx:=rep_str hv
   split at he
   ·rename_i l h' m hl hh hm
    cases hb1:(decide (0≤l)&&decide (l≤h')&&decide (h'≤m)&&decide (m≤(d.s.size:Int))) with
    | false=>rw[hb1] at he;simp at he
    | true=>
    rw[hb1] at he
    simp only[cond_true] at he
    simp only[Bool.and_eq_true,decide_eq_true_eq] at hb1
    obtain⟨⟨⟨h0,h1⟩,h2⟩,h3⟩:=hb1
    have bl:=bound_nat hr hl h0
    have bh:=bound_nat hr hh (by omega)
    have hb:=sliceBounds_ok (P:=P) (isS:=false) (len:=d.s.size) (cap:=d.s.size) (lo:=lo.map a.eval) (hi:=hi.map a.eval) (mx:=none) (l:=l.toNat) (h:=h'.toNat) (m:=d.s.size) (w:=w)
     (by cases lo with | none=>simp only[Option.map_none] at bl ⊢;omega | some v=>exact bl)
     (by cases hi with
       | none=>simp only[Option.map_none] at bh ⊢;exact⟨by omega,trivial⟩
       | some v=>exact bh) rfl (by omega) (by omega) (by omega)
    refine wp_value (x:=.string (d.s.extract l.toNat h'.toNat)) (w':=w) ?_ (hn.same h he (.inr ⟨.str,by simp[RV,Rep]⟩))
    simp only[execOp,ho,Instr.sliceAt,Instr.slice,hx]
    simp only[run_bind,run_underlying T (under_str T hk),Option.map_none,Option.isSome_none,Bool.false_eq_true,if_false,hb,run_pure]
   ·simp at he
  ·simp at he
 ·rename_i e e' d hk hb
  split at he
  ·rename_i hee
   subst hee
   rw[hb] at hv
   replace hv:=hv.resolve_left (by simp)
   obtain⟨κ0,hv⟩:=hv
   simp only[RV] at hv
   obtain⟨rfl,hv⟩:=hv
   split at he
   ·rename_i l h' m hl hh hm
    cases hb1:(decide (0≤l)&&decide (l≤h')&&decide (h'≤m)&&decide (m≤(d.elems.length:Int))) with
    | false=>rw[hb1] at he;simp at he
    | true=>
    rw[hb1] at he
    simp only[cond_true] at he
    simp only[Bool.and_eq_true,decide_eq_true_eq] at hb1
    obtain⟨⟨⟨h0,h1⟩,h2⟩,h3⟩:=hb1
    cases d with
    | slice nn ds=>
     obtain⟨y,hrun,hrep⟩:=hsl hk nn ds l h' m hl hh hm hmh' h0 h1 h2 h3 hv
     exact wp_value hrun (hn.same h he (.inr ⟨_,by simp only[RV];exact⟨rfl,hrep⟩⟩))
    | agg ds=>simp[Rep,K.isAgg] at hv
    | tup _=>simp[Rep] at hv
    | _=>simp[Rep] at hv
   ·simp at he
  ·simp at he
 ·rename_i e e' ds hk hb
  split at he
  ·rename_i hee
   subst hee
   rw[hb] at hv
   replace hv:=hv.resolve_left (by simp)
   obtain⟨κ0,hv⟩:=hv
   have hrep:=pure_ok T h (st:=true) (Mem.le_refl _) _ _ _ (.slice true ds) hv (by rintro rfl;simp[RV] at hv) rfl
   have hk0:κ0 = .slice e':=by simp only[RV] at hv;exact hv.1
   subst hk0
   change Rep E.ty (M_ X μ H w) _ _ _ at hrep
   split at he
   ·rename_i l h' m hl hh hm
    cases hb1:(decide (0≤l)&&decide (l≤h')&&decide (h'≤m)&&decide (m≤(ds.length:Int))) with
    | false=>rw[hb1] at he;simp at he
    | true=>
    rw[hb1] at he
    simp only[cond_true] at he
    simp only[Bool.and_eq_true,decide_eq_true_eq] at hb1
    obtain⟨⟨⟨h0,h1⟩,h2⟩,h3⟩:=hb1
    obtain⟨y,hrun,hrep⟩:=hsl hk true ds l h' m hl hh hm hmh' h0 h1 h2 h3 hrep
    exact wp_value hrun (hn.same h he (.inr ⟨_,by simp only[RV];exact⟨rfl,hrep⟩⟩))
   ·simp at he
  ·simp at he
 ·rename_i e b off len hk hb
  split at he
  ·rename_i e' own nn ds hH
   split at he
   ·rename_i hee
    subst hee
    rw[hb] at hv
    replace hv:=hv.resolve_left (by simp)
    obtain⟨κ0,hv⟩:=hv
    simp only[RV] at hv
    obtain⟨lc,n,e0,hμ,hlκ,_,hlen,hx⟩:=hv
    obtain⟨rfl,rfl⟩:=row_loc h hH hμ hlκ
    have hobj:=h.obj b lc _ hμ hH
    have hne:E.ty e0≠.bad:=under_slice_ne T hk
    split at he
    ·rename_i l h' m hl hh hm
     have hkey:0≤l→l≤h'→∀(ad:Option Addr) (c:Nat),a.eval x = .slice ad len c→len≤c→h'.toNat≤c→(mx.isSome=true→h'≤m∧m≤(len:Int))→∃m',m'≤c∧h'.toNat≤m'∧(mx.isSome=true→m'=m.toNat)∧(mx.isSome=false→m'=c) ∧
       (execOp a.eval o).run P w = .ok (.value (.slice (if m'=l.toNat then ad else ad.map (·.add (l.toNat*P.cellsOf e0))) (h'.toNat-l.toNat) (m'-l.toNat))) w:=by
      intro h0 h1 ad c hx hc hhc hmx
      have bl:=bound_nat hr hl h0
      have bh:=bound_nat hr hh (by omega)
      let m':Nat:=match mx with | some _=>m.toNat | none=>c
      have hm'c:m'≤c:=by
       cases mx with
       | none=>simp only[m'];omega
       | some v=>have:=hmx rfl;simp only[m'];omega
      have hhm:h'.toNat≤m':=by
       cases mx with
       | none=>simp only[m'];omega
       | some v=>have:=hmx rfl;simp only[m'];omega
      have hb:=sliceBounds_ok (P:=P) (isS:=true) (len:=len) (cap:=c) (lo:=lo.map a.eval) (hi:=hi.map a.eval) (mx:=mx.map a.eval) (l:=l.toNat) (h:=h'.toNat) (m:=m') (w:=w)
       (by cases lo with | none=>simp only[Option.map_none] at bl ⊢;omega | some v=>exact bl)
       (by cases hi with
         | none=>simp only[Option.map_none] at bh ⊢;refine⟨by omega,?_⟩;cases mx with | none=>rfl | some v=>simp at hmh'
         | some v=>exact bh)
       (by cases mx with | none=>rfl | some v=>have:=hmx rfl;have bm:=bound_nat hr hm (by omega);exact bm) (by omega) hhm hm'c
      refine⟨m',hm'c,hhm,?_,?_,?_⟩
      ·cases mx with | none=>simp | some v=>simp[m']
      ·cases mx with | none=>simp[m'] | some v=>simp
      ·simp only[execOp,ho,Instr.sliceAt,Instr.slice,hx]
       simp only[run_bind,run_underlying T (under_slice T hk),hb,run_sizeOf T hne,run_pure]
     have hgo:k (.sref b (off+l.toNat) (h'.toNat-l.toNat)) .none=some r→0≤l→l≤h'→off+h'.toNat≤ds.length→(mx.isSome=true→h'≤m∧m≤(len:Int)∧off+m.toNat=ds.length)→o.wp P a w next Q:=by
      intro hek h0 h1 h2 h3
      have h3':mx.isSome=true→h'≤m∧m≤(len:Int):=fun h=>⟨(h3 h).1,(h3 h).2.1⟩
      rcases hx with ⟨hvirt,hl0,ad,hx,ha⟩ | ⟨hvirt,c,hx,hc,hoc,hreach⟩ | ⟨hvirt,hl0,hreach,ad,hx⟩
      ·subst hl0
       have hd0:ds=[]:=by simp only[ObjOk] at hobj;rw[if_pos hvirt] at hobj;exact hobj.2.2.2
       have hdl:ds.length=0:=by rw[hd0];rfl
       obtain⟨m',hm'c,hhm,_,_,hrun⟩:=hkey h0 h1 ad 0 hx (Nat.le_refl _) (by omega) h3'
       have:m'=l.toNat:=by omega
       rw[if_pos this] at hrun
       refine wp_value hrun (hn.same h hek (.inr ⟨.slice e0,?_⟩))
       simp only[RV]
       exact⟨lc,_,e0,hμ,hlκ,rfl,by omega,.inl ⟨hvirt,by omega,ad,by rw[show h'.toNat-l.toNat=0 by omega,show m'-l.toNat=0 by omega],ha⟩⟩
      ·obtain⟨m',hm'c,hhm,hms,hmn,hrun⟩:=hkey h0 h1 _ c hx hc (by omega) h3'
       have hre:ds.length≤off+m':=by
        cases hmx:mx.isSome with
        | true=>have:=hms hmx;have:=(h3 hmx).2.2;omega
        | false=>have:=hmn hmx;omega
       refine wp_value hrun (hn.same h hek (.inr ⟨.slice e0,?_⟩))
       simp only[RV]
       by_cases hml:m'=l.toNat
       ·rw[if_pos hml]
        exact⟨lc,_,e0,hμ,hlκ,rfl,by omega,.inr (.inr ⟨hvirt,by omega,by omega,_,by rw[show h'.toNat-l.toNat=0 by omega,show m'-l.toNat=0 by omega]⟩)⟩
       ·rw[if_neg hml]
        refine⟨lc,_,e0,hμ,hlκ,rfl,by omega,.inr (.inl ⟨hvirt,m'-l.toNat,?_,by omega,by omega,by omega⟩)⟩
        simp[addr_add,Nat.add_mul,Nat.add_assoc]
      ·subst hl0
       obtain⟨m',hm'c,hhm,_,_,hrun⟩:=hkey h0 h1 _ 0 hx (Nat.le_refl _) (by omega) h3'
       have:m'=l.toNat:=by omega
       rw[if_pos this] at hrun
       refine wp_value hrun (hn.same h hek (.inr ⟨.slice e0,?_⟩))
       simp only[RV]
       exact⟨lc,_,e0,hμ,hlκ,rfl,by omega,.inr (.inr ⟨hvirt,by omega,by omega,ad,by rw[show h'.toNat-l.toNat=0 by omega,show m'-l.toNat=0 by omega]⟩)⟩
     cases hmx:mx.isSome with
     | true=>
      rw[hmx] at he
      simp only[cond_true] at he
      cases hb1:(decide (0≤l)&&decide (l≤h')&&decide (h'≤m)&&decide (m≤(len:Int))&&decide (off+m.toNat=ds.length)) with
      | false=>rw[hb1] at he;simp at he
      | true=>
      rw[hb1] at he
      simp only[cond_true] at he
      simp only[Bool.and_eq_true,decide_eq_true_eq] at hb1
      obtain⟨⟨⟨⟨h0,h1⟩,h2⟩,h3⟩,h4⟩:=hb1
      exact hgo he h0 h1 (by omega) (fun _=>⟨h2,h3,h4⟩)
     | false=>
      rw[hmx] at he
      simp only[cond_false] at he
      cases hb1:(decide (0≤l)&&decide (l≤h')&&decide (off+h'.toNat≤ds.length)) with
      | false=>rw[hb1] at he;simp at he
      | true=>
      rw[hb1] at he
      simp only[cond_true] at he
      simp only[Bool.and_eq_true,decide_eq_true_eq] at hb1
      obtain⟨⟨h0,h1⟩,h2⟩:=hb1
      exact hgo he h0 h1 h2 (fun h=>by rw[hmx] at h;simp at h)
    ·simp at he
   ·simp at he
  ·simp at he
 ·simp at he
theorem op_sliceA {t:Nat} {x:Operand} {lo hi mx:Option Operand} (ho:o.op = .slice t x lo hi mx) (he:evOp E hint H regs o.type (.slice t x lo hi mx) k=some r):o.wp P a w next Q:=by
 simp only[evOp,evSliceA] at he
 split at he
 ·rename_i n e b κ' hk hb
  split at he
  ·rename_i e' own nn ds hH
   split at he
   ·rename_i hc
    obtain⟨rfl,hmx⟩:=hc
    split at he
    ·rename_i l h' m hl hh hm
     cases hb1:(decide (0≤l)&&decide (l≤h')&&decide (h'≤(n:Int))&&decide (m=(n:Int))&&Nat.beq ds.length n) with
     | false=>rw[hb1] at he;simp at he
     | true=>
      rw[hb1] at he
      simp only[cond_true] at he
      simp only[Bool.and_eq_true,decide_eq_true_eq] at hb1
      obtain⟨⟨⟨⟨h0,h1⟩,h2⟩,hmn⟩,h3⟩:=hb1
      have hnl:=Nat.eq_of_beq_eq_true h3
      have hv:=val_ok hr (E.ty t) x
      rw[hb] at hv
      replace hv:=hv.resolve_left (by simp)
      obtain⟨κ0,hv⟩:=hv
      simp only[RV] at hv
      obtain⟨_,lc,hμ,hvirt,_,_,hx⟩:=hv
      have hobj:=h.obj b lc _ hμ hH
      have hk1:lc.κ = .array ds.length e':=by simp only[ObjOk] at hobj;exact hobj.1
      have hcap:ds.length≤lc.cap:=by
       simp only[ObjOk] at hobj
       have:=hobj.2.2.2
       rw[if_neg (by simp[hvirt])] at this
       exact this.2.1.1
      obtain⟨hu,_,hne⟩:=under_array T hk
      have bl:=bound_nat hr hl h0
      have bh:=bound_nat hr hh (by omega)
      have bm:=bound_nat hr hm (by omega)
      have hbd:=sliceBounds_ok (P:=P) (isS:=false) (len:=n) (cap:=n) (lo:=lo.map a.eval) (hi:=hi.map a.eval) (mx:=mx.map a.eval) (l:=l.toNat) (h:=h'.toNat) (m:=n) (w:=w)
       (by cases lo with | none=>simp only[Option.map_none] at bl ⊢;omega | some v=>exact bl)
       (by cases hi with | none=>(cases mx with | none=>simp only[Option.map_none] at bh ⊢;simp only[and_true];omega | some v=>simp at hmx) | some v=>exact bh) (by cases mx with | none=>rfl | some v=>subst hmn;exact bm) (by omega) (by omega) (by omega)
      have hx':a.eval x = .pointer (some ⟨lc.blk,lc.base,none⟩):=by simpa[pathOff] using hx
      have hrun:(execOp a.eval o).run P w = .ok (.value (.slice (some (if n=l.toNat then ⟨lc.blk,lc.base,none⟩ else (⟨lc.blk,lc.base,none⟩:Addr).add (l.toNat*P.cellsOf e'))) (h'.toNat-l.toNat) (n-l.toNat))) w:=by
       simp only[execOp,ho,Instr.sliceAt,Instr.sureAddr,hx']
       simp only[run_bind,run_underlying T hu,hbd,run_sizeOf T hne,run_pure]
      refine wp_value hrun (hn.same h he (.inr ⟨.slice e',?_⟩))
      simp only[RV]
      refine⟨lc,ds.length,e',hμ,hk1,rfl,by omega,?_⟩
      by_cases hz:n=l.toNat
      ·right;right
       rw[if_pos hz,show h'.toNat-l.toNat=0 by omega,show n-l.toNat=0 by omega]
       exact⟨hvirt,rfl,by omega,_,rfl⟩
      ·right;left
       rw[if_neg hz]
       exact⟨hvirt,n-l.toNat,by rw[addr_add rfl],by omega,by omega,by omega⟩
    ·simp at he
   ·simp at he
  ·simp at he
 ·exact op_slice T h hr hn ho he
theorem op_toArr {t:Nat} {x:Operand} (ho:o.op = .sliceToArrayPointer t x) (he:evOp E hint H regs o.type (.sliceToArrayPointer t x) k=some r):o.wp P a w next Q:=by
 simp only[evOp] at he
 split at he
 ·rename_i n e b off len hk hb
  split at he
  ·rename_i e' own nn ds hH
   split at he
   ·rename_i hc
    subst hc
    have hc:(Nat.ble 1 n&&Nat.beq off 0&&Nat.beq len n&&Nat.beq ds.length n)=true:=by
     cases hb1:(Nat.ble 1 n&&Nat.beq off 0&&Nat.beq len n&&Nat.beq ds.length n) with
     | false=>rw[hb1] at he;simp at he
     | true=>rfl
    rw[hc] at he
    simp only[cond_true] at he
    simp only[Bool.and_eq_true] at hc
    obtain⟨⟨⟨c4,c1⟩,c2⟩,c3⟩:=hc
    have h1:=Nat.eq_of_beq_eq_true c1
    have h2:=Nat.eq_of_beq_eq_true c2
    have h3:=Nat.eq_of_beq_eq_true c3
    have h4:=Nat.le_of_ble_eq_true c4
    subst h1 h2
    have hv:=val_ok hr .bad x
    rw[hb] at hv
    replace hv:=hv.resolve_left (by simp)
    obtain⟨κ0,hv⟩:=hv
    simp only[RV] at hv
    obtain⟨lc,n0,e0,hμ,hlk,_,_,hx⟩:=hv
    have hobj:=h.obj b lc _ hμ hH
    have hk1:lc.κ = .array ds.length e':=by simp only[ObjOk] at hobj;exact hobj.1
    obtain⟨hu,_,_⟩:=under_array T hk
    rcases hx with ⟨_,hz,_⟩ | ⟨hvirt,c,hx,_⟩ | ⟨_,hz,_⟩
    ·omega
    ·have hrun:(execOp a.eval o).run P w = .ok (.value (.pointer (some ⟨lc.blk,lc.base,none⟩))) w:=by
      simp only[execOp,ho,Instr.arrayAt,hx]
      simp only[run_bind,run_underlying T hu,run_pure]
      simp[run_pure]
     refine wp_value hrun (hn.same h he (.inr ⟨.ptr t,?_⟩))
     simp only[RV]
     refine⟨⟨t,rfl,hk⟩,lc,hμ,hvirt,by simp[pathOk],?_,by simp[pathOff]⟩
     simp[pathOff,hk1,h3]
    ·omega
   ·simp at he
  ·simp at he
 ·simp at he
end ops
end
end Go.AM
namespace Go.AM
open Go Go.RowKit
section
variable {P:Program} {ty:Nat→K} {cd:Cd} {X:List Nat} {B0:Nat} {w0:World}
theorem src_ok' (T:TyOk P ty) {μ:List Loc} {H:List AObj} {w:World} (h:HOk ty P.cellsOf cd X B0 w0 μ H w) {e:Nat} {v:V} {κ:K} {x:Value} {ys:List D} (hr:RR ty P.cellsOf (M_ X μ H w) μ v x) (he:litElems H ty e v κ=some ys) :
  (Builtin.lenOf x).run P w = .ok ys.length w∧(∃cs,(∀w':World,(∀b:Nat,w'.heap[b]? = w.heap[b]?)→∀m,m≤ys.length→(Builtin.firstCells (P.cellsOf e) m x).run P w' = .ok (cs.take (m*P.cellsOf e)).toArray w')∧Reps ty (M_ X μ H w) ys (List.replicate ys.length (ty e)) cs)∧(κ = .str∨∃e',κ = .slice e'):=by
 unfold litElems at he
 have htk:∀{cs:List Value} {m n:Nat},cs.length=n*P.cellsOf e→m≤n→(cs.take (m*P.cellsOf e)).length=m*P.cellsOf e:=by
  intro cs m n h1 h2
  rw[List.length_take,h1]
  exact Nat.min_eq_left (Nat.mul_le_mul_right _ h2)
 have htg:∀{cs:List Value} {m j:Nat} {v:Value},(cs.take m)[j]? = some v→cs[j]? = some v:=by
  intro cs m j v h1
  rw[List.getElem?_take] at h1
  split at h1
  ·exact h1
  ·simp at h1
 have hstable:∀{ad:Addr} {cs:List Value} (w':World) (m:Nat),(∀b:Nat,w'.heap[b]? = w.heap[b]?)→(M_ X μ H w).at ad cs→(loadCells ad (cs.take m).length).run P w' = .ok (cs.take m).toArray w':=by
  intro ad cs w' m hw' hat
  refine run_loadCells hat.1 (fun j v hj=>?_)
  have:=hat.2 j v (htg hj)
  simp only[M_,memOf] at this
  split at this
  ·simp at this
  ·rw[cell_congr (hw' _)];exact this
 have hflat:∀{M:Mem} {ds:List D} {cs:List Value},Reps ty M ds (List.replicate ds.length (ty e)) cs→cs.length=ds.length*P.cellsOf e:=by
  intro M ds cs hreps
  have:=(Reps.size T.szOk _ _ _ hreps).2 (List.replicate ds.length e) (by simp)
  simpa using this
 split at he
 ·
  split at he
  ·rename_i d
   replace hr:=hr.resolve_left (by simp)
   obtain⟨κ0,hr⟩:=hr
   simp only[RV] at hr
   obtain⟨rfl,hr⟩:=hr
   have hx:=rep_str hr
   split at he
   ·rename_i hke
    simp only[Option.some.injEq] at he
    subst he
    have hlen:(bytesOf d.s).length=d.s.size:=by simp[bytesOf]
    refine⟨by rw[hx,hlen];rfl,⟨d.s.data.toList.map fun b=>Value.int .u8 b.toNat,?_,?_⟩,.inl rfl⟩
    ·intro w' _ m hm
     have hone:P.cellsOf e=1:=by rw[T.szOk e (by rw[hke];simp),hke];rfl
     rw[hx,hone]
     rw[hlen] at hm
     simp only[Builtin.firstCells,run_pure]
     congr 1
     apply Array.toList_inj.1
     simp[ByteArray.data_extract,List.map_take]
    ·have:=reps_bytes (M:=M_ X μ H w) hke d.s.data.toList
     simpa[bytesOf] using this
   ·simp at he
  ·simp at he
 ·rename_i e'
  split at he
  ·rename_i hee
   subst hee
   split at he
   ·rename_i e'' d
    split at he
    ·rename_i hee
     subst hee
     simp only[Option.some.injEq] at he
     subst he
     replace hr:=hr.resolve_left (by simp)
     obtain⟨κ0,hr⟩:=hr
     simp only[RV] at hr
     obtain⟨rfl,hr⟩:=hr
     cases d with
     | slice nn ds=>
      simp only[Rep] at hr
      obtain⟨e1,ad,cap,h1,rfl,hcap,_,_,hd⟩:=hr
      simp only[K.slice.injEq] at h1
      subst h1
      simp only[D.elems]
      refine⟨rfl,?_,.inr ⟨_,rfl⟩⟩
      rcases hd with rfl | ⟨ad',cs,rfl,hat,hreps⟩
      ·refine⟨[],?_,by simp[Reps]⟩
       intro w' _ m hm
       have hm0:m=0:=by simpa using hm
       subst hm0
       cases ad<;>simp[Builtin.firstCells,loadCells,loadCellsFrom,run_pure]
      ·refine⟨cs,?_,hreps⟩
       intro w' hw' m hm
       simp only[Builtin.firstCells]
       conv=>lhs;rw[←htk (hflat hreps) hm]
       exact hstable w' _ hw' hat
     | agg ds=>simp[Rep,K.isAgg] at hr
     | tup _=>simp[Rep] at hr
     | _=>simp[Rep] at hr
    ·simp at he
   ·rename_i e'' ds
    split at he
    ·rename_i hee
     subst hee
     simp only[Option.some.injEq] at he
     subst he
     replace hr:=hr.resolve_left (by simp)
     obtain⟨κ0,hr⟩:=hr
     simp only[RV] at hr
     obtain⟨_,ad,cs,rfl,hat,hreps⟩:=hr
     refine⟨rfl,⟨cs,?_,hreps⟩,.inr ⟨_,rfl⟩⟩
     intro w' hw' m hm
     simp only[Builtin.firstCells]
     conv=>lhs;rw[←htk (hflat hreps) hm]
     exact hstable w' _ hw' hat
    ·simp at he
   ·rename_i b off len
    split at he
    ·rename_i e'' own nn ds hH
     split at he
     ·rename_i hee
      subst hee
      simp only[Option.some.injEq] at he
      subst he
      replace hr:=hr.resolve_left (by simp)
      obtain⟨κ0,hr⟩:=hr
      simp only[RV] at hr
      obtain⟨l,n,e0,hμ,hl,_,hlen,hx⟩:=hr
      obtain⟨rfl,rfl⟩:=row_loc h hH hμ hl
      have hobj:=h.obj b l _ hμ hH
      have hlt:((ds.drop off).take len).length=len:=by simp;omega
      rw[hlt]
      have hne:ty e0≠.bad:=by simp only[ObjOk] at hobj;exact hobj.2.2.1
      rcases hx with ⟨hvirt,rfl,a,rfl,ha⟩ | ⟨hvirt,c,rfl,hc,hoc,hreach⟩ | ⟨hvirt,rfl,hreach,ad,rfl⟩
      ·exact⟨rfl,⟨[],by intro w' _ m hm;obtain rfl:m=0:=(by omega);cases a<;>simp[Builtin.firstCells,loadCells,loadCellsFrom,run_pure],by simp[Reps]⟩,.inr ⟨_,rfl⟩⟩
      ·simp only[ObjOk] at hobj
       obtain⟨_,_,_,hb⟩:=hobj
       rw[if_neg (by simp[hvirt])] at hb
       obtain⟨hnn,hcap,cs,et,fz,pre,mid,post,h1,h2,h3,h4,h5,h6⟩:=hb
       obtain⟨c1,cm,c2,e1,l1,l2,r1,_,_⟩:=Reps.drop_take T.szOk hne h4 hlen
       refine⟨rfl,⟨cm,?_,r1⟩,.inr ⟨_,rfl⟩⟩
       intro w' hw' m hm
       simp only[Builtin.firstCells]
       conv=>lhs;rw[←htk l2 hm]
       refine run_loadCells rfl (fun j v hj=>?_)
       rw[cell_congr (hw' _)]
       have hcell:=block_cells h1 (c1:=pre++c1) (y:=cm) (c2:=c2++post) (by rw[h2,e1];simp) j v (htg hj)
       simpa[h3,l1,Nat.add_assoc] using hcell
      ·exact⟨rfl,⟨[],by intro w' _ m hm;obtain rfl:m=0:=(by omega);simp[Builtin.firstCells,loadCells,loadCellsFrom,run_pure],by simp[Reps]⟩,.inr ⟨_,rfl⟩⟩
     ·simp at he
    ·simp at he
   ·simp at he
  ·simp at he
 ·simp at he
theorem src_ok (T:TyOk P ty) {μ:List Loc} {H:List AObj} {w:World} (h:HOk ty P.cellsOf cd X B0 w0 μ H w) {e:Nat} {v:V} {κ:K} {x:Value} {ys:List D} (hr:RR ty P.cellsOf (M_ X μ H w) μ v x) (he:litElems H ty e v κ=some ys) :
  (Builtin.lenOf x).run P w = .ok ys.length w∧(∃cs,(∀w':World,(∀b:Nat,w'.heap[b]? = w.heap[b]?)→(Builtin.firstCells (P.cellsOf e) ys.length x).run P w' = .ok cs.toArray w')∧Reps ty (M_ X μ H w) ys (List.replicate ys.length (ty e)) cs)∧(κ = .str∨∃e',κ = .slice e'):=by
 obtain⟨h1,⟨cs,h2,h3⟩,h4⟩:=src_ok' T h hr he
 refine⟨h1,⟨cs,fun w' hw'=>?_,h3⟩,h4⟩
 have:=h2 w' hw' _ (Nat.le_refl _)
 have hl:=(Reps.size T.szOk _ _ _ h3).2 (List.replicate ys.length e) (by simp)
 rw[List.take_of_length_le (by simp at hl;omega)] at this
 exact this
theorem growBy_le (n:Nat):∀(r c:Nat),Builtin.growBy n r c≤max c (n+(n+768) / 4)
 | 0,c=>by simp only[Builtin.growBy];omega
 | r+1,c=>by
  simp only[Builtin.growBy]
  split
  ·omega
  ·have:=growBy_le n r (c+(c+768) / 4);omega
theorem nextslicecap_le {n c:Nat} (h:c<n):Builtin.nextslicecap n c≤2*n+1024:=by
 unfold Builtin.nextslicecap
 split
 ·omega
 ·split
  ·omega
  ·have:=growBy_le n 4 c;omega
theorem run_append_in {T':TyOk P ty} {t u e:Nat} {ty0:Nat} {base:Option Addr} {sLen sCap n:Nat} {x:Value} {cs:List Value} {w w':World} (hu:P.underlying t=some (.slice e)) (hne:ty e≠.bad) {dx:TypeDesc} (hux:P.underlying u=some dx) (hdx:∀k,dx≠.int k)
  (hlen:(Builtin.lenOf x).run P w = .ok n w) (hsrc:(Builtin.firstCells (P.cellsOf e) n x).run P w = .ok cs.toArray w) (hcap:sLen+n≤sCap)
  (hst:match base with | some a=>(storeCells (a.add (sLen*P.cellsOf e)) cs 0).run P w = .ok () w' | none=>w'=w) :
  (Builtin.append_ #[t,u] ty0 #[.slice base sLen sCap,x]).run P w = .ok (.slice base (sLen+n) sCap) w':=by
 have hz:(match dx with | .int _=>true | _=>false)=false:=by cases dx<;>first | rfl | exact absurd rfl (hdx _)
 simp only[Builtin.append_,List.getElem?_toArray,List.getElem?_cons_zero,List.getElem?_cons_succ]
 simp only[run_bind,run_underlying T' hu,run_sizeOf T' hne,run_underlying T' hux,run_pure,hz,Bool.false_eq_true,if_false,hlen,hcap,if_true,Bool.not_false,hsrc]
 cases base with
 | none=>simp only at hst;subst hst;simp[run_pure]
 | some a=>simp only at hst;simp[run_bind,hst,run_pure]
theorem run_append_new {T':TyOk P ty} {t u e:Nat} {ty0:Nat} {base:Option Addr} {sLen sCap n:Nat} {x:Value} {cs os:List Value} {w:World} (hu:P.underlying t=some (.slice e)) (hne:ty e≠.bad) {dx:TypeDesc} (hux:P.underlying u=some dx) (hdx:∀k,dx≠.int k)
  (hlen:(Builtin.lenOf x).run P w = .ok n w) (hcap:sCap<sLen+n) (hmax:sLen+n≤maxLen)
  (hsrc:∀w':World,(∀b:Nat,w'.heap[b]? = w.heap[b]?)→(Builtin.firstCells (P.cellsOf e) n x).run P w' = .ok cs.toArray w')
  (hold:∀w':World,(∀b:Nat,w'.heap[b]? = w.heap[b]?)→(Builtin.firstCells (P.cellsOf e) sLen (.slice base sLen sCap)).run P w' = .ok os.toArray w') :
  ∃(cap:Nat) (rest:List Value),(sLen+n≤cap∧cap≤maxInt)∧rest.length=(cap-(sLen+n))*P.cellsOf e ∧
   (Builtin.append_ #[t,u] ty0 #[.slice base sLen sCap,x]).run P w = .ok (.slice (some ⟨w.heap.size,0,none⟩) (sLen+n) cap) { w with drawn:=w.drawn+1,heap:=w.heap.push (.cells (os++cs++rest).toArray e) }:=by
 obtain⟨i,hi⟩:=T' e hne
 obtain⟨z,hz,hzr⟩:=hi.zero
 have hzs:=Rep.size T'.szOk _ _ _ (hzr (memOf w []))
 have hse:=T'.szOk e hne
 have hzf:(match dx with | .int _=>true | _=>false)=false:=by cases dx<;>first | rfl | exact absurd rfl (hdx _)
 have hmaxv:IntKind.i64.max=9223372036854775807:=by decide
 have h48:(2:Nat)^48=281474976710656:=by decide
 have hbig:¬Builtin.nextslicecap (sLen+n) sCap*i.bytes>2^48:=by
  have h1:=nextslicecap_le hcap
  have h2:=hi.bytes
  have hm:maxLen=1073741824:=rfl
  have:Builtin.nextslicecap (sLen+n) sCap*i.bytes≤(2*(sLen+n)+1024)*4096:=Nat.mul_le_mul h1 h2
  rw[h48];omega
 have hint:¬(((sLen+n:Nat):Int)>IntKind.i64.max∧((false=true)∨i.bytes=0)):=by
  rw[hmaxv];have hm:maxLen=1073741824:=rfl;omega
 let w1:World:={ w with drawn:=w.drawn+1 }
 have hw1:∀b:Nat,w1.heap[b]? = w.heap[b]?:=fun _=>rfl
 have hc:sLen+n≤_∧_≤maxInt:=⟨cap_ge (sLen+n) sCap e (w.tape w.drawn (.appendCap (sLen+n) sCap e)),cap_le (sLen+n) sCap e (w.tape w.drawn (.appendCap (sLen+n) sCap e)) hmax⟩
 generalize hcapv:(Question.appendCap (sLen+n) sCap e).cut (w.tape w.drawn (.appendCap (sLen+n) sCap e))=cap at hc
 have hroom:∀(m:Nat) (w:World),(askRoom m).run P w = .ok () w:=by
  intro m w
  unfold askRoom
  split<;>simp[mark,Sem.run,run_pure]
 have hzw:(zeroValue e).run P w1 = .ok z w1:=by simp[zeroValue,typeInfo,run_bind,program,Sem.run,hi.info,run_pure,hz]
 refine⟨cap,(Builtin.zeroCells z.cells (cap-(sLen+n))).toList,hc,by simp[Builtin.zeroCells,hzs,hse],?_⟩
 simp only[Builtin.append_,List.getElem?_toArray,List.getElem?_cons_zero,List.getElem?_cons_succ]
 simp only[run_bind,run_underlying T' hu,run_sizeOf T' hne,run_underlying T' hux,run_pure,hzf,Bool.false_eq_true,if_false,hlen]
 rw[if_neg (by omega)]
 simp only[run_bind,typeInfo,program,Sem.run,hi.info,run_pure]
 rw[if_neg (by simpa using hint)]
 simp only[run_bind,typeInfo,program,Sem.run,hi.info,run_pure]
 rw[if_neg hbig]
 simp only[run_bind,run_choose_cap (q:=.appendCap (sLen+n) sCap e) rfl w,hcapv,typeInfo,program,Sem.run,hi.info,run_pure,hroom]
 have h1:=hold w1 hw1
 have h2:=hsrc w1 hw1
 simp only[w1] at h1 h2 hzw
 simp only[h1,Bool.not_false,if_true,h2,hzw,newRow,newObj,Sem.run,run_bind,run_pure]
 congr 2
 congr 1
 simp
end
end Go.AM
namespace Go.AM
open Go Go.RowKit
section
variable {P:Program} {ty:Nat→K} {cd:Cd} {X:List Nat} {B0:Nat} {w0:World}
section ops
variable {R:Type} {E:Env} {hint:Hint} {μ:List Loc} {H:List AObj} {w:World} {regs:List V} {a:Act} {o:Oper} {k:V→Eff→Option R} {r:R} {next:Act→World→Prop} {Q:Exit→Act→World→Prop}
variable (T:TyOk P E.ty) (h:HOk E.ty P.cellsOf E.rnd X B0 w0 μ H w) (hr:Regs P E.ty (M_ X μ H w) μ regs a.tmps) (hn:Nexts P E.ty E.rnd X B0 w0 μ H w a o.dst k r next)
theorem _root_.List.set_getElem?_self_of {α:Type} {l:List α} {i:Nat} {x:α} (h:l[i]? = some x):l.set i x=l:=by
 obtain⟨hi,rfl⟩:=List.getElem?_eq_some_iff.1 h
 exact List.set_getElem_self hi
theorem run_builtin {c:Call} {b:Builtin} (ho:o.op = .call c) (hc:c.callee = .builtin b):∃cs,execOp a.eval o=Go.builtin b c.argTypes o.type cs (c.args.map a.eval):=by
 refine⟨c.args.map fun | .const _=>true | _=>false,?_⟩
 simp only[execOp,ho,resolve,hc]
 rfl
theorem vals_two {xs:List Operand} {ts:List Nat} {s x:V} {t u:Nat} (hl:xs.length=ts.length) (h1:vals regs E.ty xs ts=[s,x]) (h2:ts=[t,u]):∃ao bo,xs=[ao,bo]∧s=val regs (E.ty t) ao∧x=val regs (E.ty u) bo:=by
 subst h2
 match xs,hl with
 | [ao,bo],_=>simp only[vals,List.cons.injEq,and_true] at h1;exact⟨ao,bo,rfl,h1.1.symm,h1.2.symm⟩
include T h hr hn
theorem append_new {c:Call} {t u e:Nat} {ao bo:Operand} (ho:o.op = .call c) (hc:c.callee = .builtin .append) (hargs:c.args.toList=[ao,bo]) (hts:c.argTypes.toList=[t,u]) (hk:E.ty t = .slice e) {κu:K} (hku:E.ty u=κu) (hκu:κu = .str∨∃e',κu = .slice e')
  {base:Option Addr} {sLen sCap:Nat} {xs ys:List D} {cs os:List Value} (hs:a.eval ao = .slice base sLen sCap) (hlen:(Builtin.lenOf (a.eval bo)).run P w = .ok ys.length w) (hcap:sCap<sLen+ys.length) (hmax:sLen+ys.length≤maxLen) (hxs:xs.length=sLen)
  (hsrc:∀w':World,(∀b:Nat,w'.heap[b]? = w.heap[b]?)→(Builtin.firstCells (P.cellsOf e) ys.length (a.eval bo)).run P w' = .ok cs.toArray w') (hys:Reps E.ty (M_ X μ H w) ys (List.replicate ys.length (E.ty e)) cs)
  (hold:∀w':World,(∀b:Nat,w'.heap[b]? = w.heap[b]?)→(Builtin.firstCells (P.cellsOf e) sLen (.slice base sLen sCap)).run P w' = .ok os.toArray w') (hxsr:Reps E.ty (M_ X μ H w) xs (List.replicate xs.length (E.ty e)) os)
  {H':List AObj} (h':HOk E.ty P.cellsOf E.rnd X B0 w0 μ H' w) (hle:(M_ X μ H w).le (M_ X μ H' w)) :
  ∃w' μ',(execOp a.eval o).run P w = .ok (.value (.slice (some ⟨w.heap.size,0,none⟩) (sLen+ys.length) (match (Builtin.append_ c.argTypes o.type (c.args.map a.eval)).run P w with | .ok (.slice _ _ cap) _=>cap | _=>0))) w' ∧
   HOk E.ty P.cellsOf E.rnd X B0 w0 μ' (H'++[.row e true true (xs++ys)]) w'∧Fut X B0 μ.length μ H' w μ' (H'++[.row e true true (xs++ys)]) w' ∧
   RR E.ty P.cellsOf (M_ X μ' (H'++[.row e true true (xs++ys)]) w') μ' (.sref H'.length 0 (sLen+ys.length)) (.slice (some ⟨w.heap.size,0,none⟩) (sLen+ys.length) (match (Builtin.append_ c.argTypes o.type (c.args.map a.eval)).run P w with | .ok (.slice _ _ cap) _=>cap | _=>0)):=by
 have hne:=under_slice_ne T hk
 have hux:∃dx,P.underlying u=some dx∧∀k,dx≠.int k:=by
  rcases hκu with rfl | ⟨e',rfl⟩
  ·exact⟨_,under_str T hku,by simp⟩
  ·exact⟨_,under_slice T hku,by simp⟩
 obtain⟨dx,hux,hdx⟩:=hux
 have ea:c.argTypes = #[t,u]:=by apply Array.toList_inj.1;rw[hts]
 have eb:c.args.map a.eval = #[a.eval ao,a.eval bo]:=by apply Array.toList_inj.1;simp[hargs]
 obtain⟨cap,rest,hc1,hc2,hrun⟩:=run_append_new (T':=T) (ty0:=o.type) (under_slice T hk) hne hux hdx hlen hcap hmax hsrc hold
 rw[ea,eb,hs,hrun]
 simp only[]
 have hl:(xs++ys).length=sLen+ys.length:=by simp[hxs]
 obtain⟨h1,h2,h3⟩:=newRow_adopt h' (w':={ w with drawn:=w.drawn+1,heap:=w.heap.push (.cells (os++cs++rest).toArray e) })
  ⟨rfl,rfl,rfl,by simp,fun i hi=>by simp only[Array.getElem?_push];rw[if_neg (by omega)]⟩ (blk:=w.heap.size) (e:=e) (cap:=cap) (et:=e) (fz:=(0,0)) (cs:=(os++cs++rest).toArray) (ds:=xs++ys) (mid:=os++cs) (post:=rest)
  (Nat.le_refl _) (by simp) hne (by simp) (fun M' hM=>by
   rw[List.length_append,←List.replicate_append_replicate]
   exact Reps.mono _ (Mem.le_trans hle hM) _ _ _ (hxsr.append hys)) (by omega) (by rw[hl,hc2];exact Nat.le_refl _) (by simp)
 rw[hl] at h1 h2 h3
 refine⟨_,_,?_,h1,h2,h3⟩
 obtain⟨cs',hex⟩:=run_builtin (a:=a) ho hc
 rw[hex]
 simp only[Go.builtin]
 rw[ea,eb,hs]
 simp only[run_bind,hrun,run_pure]
theorem append_in {c:Call} {t u e:Nat} {ao bo:Operand} (ho:o.op = .call c) (hc:c.callee = .builtin .append) (hargs:c.args.toList=[ao,bo]) (hts:c.argTypes.toList=[t,u]) (hk:E.ty t = .slice e) {κu:K} (hku:E.ty u=κu) (hκu:κu = .str∨∃e',κu = .slice e')
  {b off len:Nat} {nn:Bool} {ds ys:List D} {cs:List Value} {l:Loc} {cap:Nat} (hμ:μ[b]? = some l) (hH:H[b]? = some (.row e true nn ds)) (hvirt:l.virt=false) (hs:a.eval ao = .slice (some ⟨l.blk,l.base+off*P.cellsOf e,none⟩) len cap) (hlc:len≤cap) (hoc:off+cap≤l.cap) (hol:off+len≤ds.length)
  (hlen:(Builtin.lenOf (a.eval bo)).run P w = .ok ys.length w) (hcap:len+ys.length≤cap)
  (hsrc:∀w':World,(∀b:Nat,w'.heap[b]? = w.heap[b]?)→(Builtin.firstCells (P.cellsOf e) ys.length (a.eval bo)).run P w' = .ok cs.toArray w') (hys:Reps E.ty (M_ X μ H w) ys (List.replicate ys.length (E.ty e)) cs)
  (hkk:k (.sref H.length 0 (len+ys.length)) (.kill b (.row e true true ((ds.drop off).take len++ys)))=some r):o.wp P a w next Q:=by
 have hne:=under_slice_ne T hk
 have hux:∃dx,P.underlying u=some dx∧∀k,dx≠.int k:=by
  rcases hκu with rfl | ⟨e',rfl⟩
  ·exact⟨_,under_str T hku,by simp⟩
  ·exact⟨_,under_slice T hku,by simp⟩
 obtain⟨dx,hux,hdx⟩:=hux
 have ea:c.argTypes = #[t,u]:=by apply Array.toList_inj.1;rw[hts]
 have eb:c.args.map a.eval = #[a.eval ao,a.eval bo]:=by apply Array.toList_inj.1;simp[hargs]
 have hobj:=h.obj b l _ hμ hH
 simp only[ObjOk] at hobj
 obtain⟨_,_,_,hb⟩:=hobj
 rw[if_neg (by simp[hvirt])] at hb
 obtain⟨hnn,hlcap,bs,et,fz,pre,mid,post,h1,h2,h3,h4,h5,h6,het⟩:=hb
 obtain⟨c1,cm,c2,e1,l1,l2,r1,_,r2⟩:=Reps.drop_take T.szOk hne h4 hol
 have hcs:cs.length=ys.length*P.cellsOf e:=by
  have:=(Reps.size T.szOk _ _ _ hys).2 (List.replicate ys.length e) (by simp)
  simpa using this
 have hc2:c2.length=(ds.length-(off+len))*P.cellsOf e:=by
  have:=(Reps.size T.szOk _ _ _ r2).2 (List.replicate (ds.length-(off+len)) e) (by simp)
  simpa using this
 have hroom:(cap-len)*P.cellsOf e≤(c2++post).length:=by
  rw[List.length_append,hc2]
  have:(cap-len)≤(ds.length-(off+len))+(l.cap-ds.length):=by omega
  calc (cap-len)*P.cellsOf e≤((ds.length-(off+len))+(l.cap-ds.length))*P.cellsOf e:=Nat.mul_le_mul_right _ this
   _=(ds.length-(off+len))*P.cellsOf e+(l.cap-ds.length)*P.cellsOf e:=Nat.add_mul _ _ _
   _≤_:=by omega
 have hn2:ys.length*P.cellsOf e≤(c2++post).length:=Nat.le_trans (Nat.mul_le_mul_right _ (by omega)) hroom
 let seg:=(c2++post).take (ys.length*P.cellsOf e)
 let rest:=(c2++post).drop (ys.length*P.cellsOf e)
 have hseg:seg.length=cs.length:=by simp only[seg,List.length_take,hcs];omega
 have hbs:bs.toList=(pre++c1++cm)++seg++rest:=by
  rw[h2,e1]
  simp only[seg,rest,List.append_assoc,List.take_append_drop]
 have hbs':w.heap[l.blk]? = some (.cells ((pre++c1++cm)++seg++rest).toArray et fz):=by rw[←hbs];exact h1
 have hcsc:∀v∈cs,scal v=true:=Reps.scal _ _ _ _ hys
 have hpre:(pre++c1++cm).length=l.base+off*P.cellsOf e+len*P.cellsOf e:=by simp[h3,l1,l2];omega
 have hst:=run_storeCells (P:=P) (b:=l.blk) (base:=l.base+off*P.cellsOf e+len*P.cellsOf e) (et:=et) (fz:=fz) cs 0 (pre++c1++cm) seg rest w hbs' hseg (by simpa using hpre) hcsc (fun o ho=>h6 o (by
  have:bs.size=bs.toList.length:=by simp
  rw[this,hbs];exact Nat.lt_add_right _ ho))
 have hrun:=run_append_in (T':=T) (ty0:=o.type) (base:=some ⟨l.blk,l.base+off*P.cellsOf e,none⟩) (sLen:=len) (sCap:=cap) (under_slice T hk) hne hux hdx hlen (hsrc w (fun _=>rfl)) hcap
  (w':=putBlk w l.blk (.cells ((pre++c1++cm)++cs++rest).toArray et fz)) (by simpa[addr_add] using hst)
 obtain⟨cs',hex⟩:=run_builtin (a:=a) ho hc
 have hfin:(execOp a.eval o).run P w = .ok (.value (.slice (some ⟨l.blk,l.base+off*P.cellsOf e,none⟩) (len+ys.length) cap)) (putBlk w l.blk (.cells ((pre++c1++cm)++cs++rest).toArray et fz)):=by
  rw[hex]
  simp only[Go.builtin]
  rw[ea,eb,hs]
  simp only[run_bind,hrun,run_pure]
 have hlx:((ds.drop off).take len).length=len:=by simp;omega
 have hly:((ds.drop off).take len++ys).length=len+ys.length:=by simp;omega
 obtain⟨g1,g2⟩:=HOk.killPut h (l':=⟨l.blk,l.base+off*P.cellsOf e,cap,.array (len+ys.length) e,false,true⟩) (o':=.row e true true ((ds.drop off).take len++ys)) (obj:=.cells ((pre++c1++cm)++cs++rest).toArray et fz) hμ hH (by simp[ownB,hvirt]) (by simp[ownB]) (fun M' hM=>by
  simp only[ObjOk]
  refine⟨by rw[hly],trivial,hne,?_⟩
  rw[if_neg (by simp)]
  refine⟨trivial,by omega,((pre++c1++cm)++cs++rest).toArray,et,fz,pre++c1,cm++cs,rest,?_,by simp,by simp[h3,l1],?_,?_,?_,het.size (by have h9:bs.size=bs.toList.length:=(by simp);rw[h9,hbs];simp[hseg])⟩
  ·rw[putBlk_heap,if_pos ⟨rfl,lt_of_block h1⟩]
  ·rw[hly,←List.replicate_append_replicate]
   exact Reps.mono _ hM _ _ _ (r1.append hys)
  ·rw[hly]
   have e9:rest.length=(c2++post).length-ys.length*P.cellsOf e:=by simp[rest]
   have:(cap-(len+ys.length))*P.cellsOf e=(cap-len)*P.cellsOf e-ys.length*P.cellsOf e:=by
    rw[←Nat.sub_mul];congr 1;omega
   omega
  ·intro o ho
   refine h6 o ?_
   have:bs.size=bs.toList.length:=by simp
   rw[this,hbs]
   simp at ho ⊢
   omega)
 refine wp_value hfin (hn _ _ _ _ _ hkk (.inr ⟨.slice e,?_⟩) g1 g2)
 simp only[RV]
 refine⟨⟨l.blk,l.base+off*P.cellsOf e,cap,.array (len+ys.length) e,false,true⟩,len+ys.length,e,?_,rfl,rfl,by omega,.inr (.inl ⟨rfl,cap,by simp,hcap,by simp,by simpa using hcap⟩)⟩
 rw[←h.len];simp
omit hr hn in
theorem splice_ok {b e:Nat} {l:Loc} {nn:Bool} {ds:List D} (hμ:μ[b]? = some l) (hH:H[b]? = some (.row e true nn ds)) (hvirt:l.virt=false) {p:Nat} {ys:List D} {cs:List Value} (hys:Reps E.ty (M_ X μ H w) ys (List.replicate ys.length (E.ty e)) cs) (hp:p+ys.length≤ds.length) :
  ∃w',(storeCells ⟨l.blk,l.base+p*P.cellsOf e,none⟩ cs).run P w = .ok () w'∧HOk E.ty P.cellsOf E.rnd X B0 w0 μ (H.set b (.row e true nn (ds.take p++ys++ds.drop (p+ys.length)))) w' ∧
   Fut X B0 μ.length μ H w μ (H.set b (.row e true nn (ds.take p++ys++ds.drop (p+ys.length)))) w':=by
 have hobj:=h.obj b l _ hμ hH
 have hne:E.ty e≠.bad:=by simp only[ObjOk] at hobj;exact hobj.2.2.1
 have hob:=hobj
 simp only[ObjOk] at hob
 obtain⟨_,_,_,hob⟩:=hob
 rw[if_neg (by simp[hvirt])] at hob
 obtain⟨hnn,hcap,bs,et,fz,pre,mid,post,h1,h2,h3,h4,h5,h6,het⟩:=hob
 obtain⟨c1,cm,c2,e1,l1,l2,r1,r0,r2⟩:=Reps.drop_take T.szOk hne h4 (i:=p) (n:=ys.length) hp
 have hcs:cs.length=ys.length*P.cellsOf e:=by
  have:=(Reps.size T.szOk _ _ _ hys).2 (List.replicate ys.length e) (by simp)
  simpa using this
 have hbs:bs=((pre++c1)++cm++(c2++post)).toArray:=by apply Array.toList_inj.1;rw[h2,e1];simp
 have hst:=run_storeCells (P:=P) (b:=l.blk) (base:=l.base+p*P.cellsOf e) (et:=et) (fz:=fz) cs 0 (pre++c1) cm (c2++post) w (by rw[←hbs];exact h1) (by rw[l2,hcs]) (by simp[h3,l1]) (Reps.scal _ _ _ _ hys) (fun o ho=>h6 o (by
  have:bs.size=bs.toList.length:=by simp
  rw[this,hbs];exact Nat.lt_add_right _ (by simpa using ho)))
 have hlen:(ds.take p++ys++ds.drop (p+ys.length)).length=ds.length:=by simp;omega
 refine⟨_,hst,?_⟩
 refine HOk.put h hμ hH (by simp[ownB,hvirt]) (by simp[ownB,hvirt]) ?_
 simp only[ObjOk] at hobj ⊢
 rw[hlen]
 refine⟨hobj.1,hobj.2.1,hne,?_⟩
 rw[if_neg (by simp[hvirt])]
 refine⟨hnn,hcap,((pre++c1)++cs++(c2++post)).toArray,et,fz,pre,c1++cs++c2,post,?_,by simp,h3,?_,h5,?_,het.size (by rw[hbs];simp[l2,hcs])⟩
 ·rw[putBlk_heap,if_pos ⟨rfl,lt_of_block h1⟩]
 ·have er:List.replicate ds.length (E.ty e)=List.replicate p (E.ty e)++List.replicate ys.length (E.ty e)++List.replicate (ds.length-(p+ys.length)) (E.ty e):=by
   rw[List.replicate_append_replicate,List.replicate_append_replicate];congr 1;omega
  rw[er]
  exact(r0.append hys).append r2
 ·intro o ho
  refine h6 o ?_
  have:bs.size=bs.toList.length:=by simp
  rw[this,hbs]
  simp[hcs,l2] at ho ⊢
  omega
theorem op_append {c:Call} (ho:o.op = .call c) (hc:c.callee = .builtin .append) (hl:c.args.toList.length=c.argTypes.toList.length) (he:evAppend E hint.inpl H (vals regs E.ty c.args.toList c.argTypes.toList) c.argTypes.toList k=some r):o.wp P a w next Q:=by
 unfold evAppend at he
 split at he
 ·rename_i s x t u hvs hts
  obtain⟨ao,bo,hargs,rfl,rfl⟩:=vals_two hl hvs hts
  split at he
  ·rename_i e hk
   have hne:=under_slice_ne T hk
   split at he
   ·rename_i ys hlit
    have hrx:=val_ok hr (E.ty u) bo
    have hrs:=val_ok hr (E.ty t) ao
    obtain⟨hlen,⟨cs,hsrc,hys⟩,hκu⟩:=src_ok T h hrx hlit
    have ea:c.argTypes = #[t,u]:=by apply Array.toList_inj.1;rw[hts]
    have eb:c.args.map a.eval = #[a.eval ao,a.eval bo]:=by apply Array.toList_inj.1;simp[hargs]
    have hux:∃dx,P.underlying u=some dx∧∀k,dx≠.int k:=by
     rcases hκu with hκu | ⟨e',hκu⟩
     ·exact⟨_,under_str T hκu,by simp⟩
     ·exact⟨_,under_slice T hκu,by simp⟩
    obtain⟨dx,hux,hdx⟩:=hux
    have hstay:∀(base:Option Addr) (n cap:Nat),a.eval ao = .slice base n cap→ys=[]→n≤cap→(execOp a.eval o).run P w = .ok (.value (.slice base n cap)) w:=by
     intro base n cap hs h0 hcap
     subst h0
     have hcs0:cs=[]:=by have:=Reps.length hys;simp[Reps] at hys;exact hys
     subst hcs0
     have hrun:=run_append_in (T':=T) (ty0:=o.type) (base:=base) (sLen:=n) (sCap:=cap) (under_slice T hk) hne hux hdx hlen (hsrc w (fun _=>rfl)) (by simpa using hcap) (w':=w) (by cases base<;>simp[storeCells,run_pure])
     obtain⟨cs',hex⟩:=run_builtin (a:=a) ho hc
     rw[hex]
     simp only[Go.builtin]
     rw[ea,eb,hs]
     simp only[run_bind,hrun,run_pure]
     simp
    have hempty:∀(base:Option Addr) (H':List AObj) (eff:List D→Eff),a.eval ao = .slice base 0 0→HOk E.ty P.cellsOf E.rnd X B0 w0 μ H' w→(M_ X μ H w).le (M_ X μ H' w)→H'.length=H.length→ys.length≤maxLen →
      (∀ds,(Eff.app (eff ds) H)=H'++[.row e true (base.isSome||!ys.isEmpty) ds])→k (.sref H.length 0 ys.length) (eff ys)=some r→o.wp P a w next Q:=by
     intro base H' eff hs h' hle hH' hmax heff hkk
     cases hys0:ys with
     | nil=>
      rw[hys0] at hkk
      obtain⟨g1,g2,g3⟩:=newVirt h' (Below.refl _ _) hne base
      have:=heff []
      rw[hys0] at this
      simp only[List.isEmpty_nil,Bool.not_true,Bool.or_false] at this
      refine wp_value (hstay base 0 0 hs hys0 (Nat.le_refl _)) (hn _ (eff []) (μ++[⟨0,0,0,.array 0 e,true,base.isSome⟩]) w _ hkk ?_ ?_ ?_)
      ·rw[this];rw[hH'] at g3;exact g3
      ·rw[this];exact g1
      ·rw[this];exact⟨g2.loc,g2.len,Mem.le_trans hle g2.mem,g2.below,g2.dfr⟩
     | cons y ys'=>
      have hpos:0<ys.length:=by rw[hys0];simp
      obtain⟨w',μ',g0,g1,g2,g3⟩:=append_new T h hr hn ho hc hargs hts hk rfl hκu (xs:=[]) (os:=[]) hs hlen (by omega) (by omega) rfl hsrc hys
       (fun w' _=>by cases base<;>simp[Builtin.firstCells,loadCells,loadCellsFrom,run_pure]) (by simp[Reps]) h' hle
      have:=heff ys
      have hne':ys.isEmpty=false:=by rw[hys0];rfl
      rw[hne'] at this
      simp only[Bool.not_false,Bool.or_true] at this
      refine wp_value g0 (hn _ (eff ys) μ' w' _ hkk ?_ ?_ ?_)
      ·rw[this];rw[hH'] at g3;simpa using g3
      ·rw[this];exact g1
      ·rw[this];exact⟨g2.loc,g2.len,Mem.le_trans hle g2.mem,g2.below,g2.dfr⟩
    split at he
    ·rename_i e' hb
     split at he
     ·rename_i hee
      subst hee
      cases hmax:decide (ys.length≤maxLen) with
      | false=>rw[hmax] at he;simp at he
      | true=>
      rw[hmax] at he
      simp only[cond_true] at he
      rw[hb] at hrs
      replace hrs:=hrs.resolve_left (by simp)
      obtain⟨κ0,hrs⟩:=hrs
      simp only[RV] at hrs
      obtain⟨rfl,hrs⟩:=hrs
      simp only[Rep] at hrs
      obtain⟨e1,ad,cap,h1,hs,_,hnn,hnil,_⟩:=hrs
      have had:ad=none:=by cases ad with | none=>rfl | some _=>simp at hnn
      subst had
      have hcap0:=hnil rfl
      subst hcap0
      exact hempty none H (fun ds=>.new (.row e' true (!ys.isEmpty) ds)) hs h (Mem.le_refl _) rfl (of_decide_eq_true hmax) (fun ds=>by simp[Eff.app]) he
     ·simp at he
    ·rename_i e' ds hb
     split at he
     ·rename_i hee
      subst hee
      rw[hb] at hrs
      replace hrs:=hrs.resolve_left (by simp)
      obtain⟨κ0,hrs⟩:=hrs
      have hrs':=hrs
      simp only[RV] at hrs
      obtain⟨_,ad,os,hs,hat,hxs⟩:=hrs
      split at he
      ·cases hmax:decide (ys.length≤maxLen) with
       | false=>rw[hmax] at he;simp at he
       | true=>
       rw[hmax] at he
       simp only[cond_true] at he
       exact hempty (some ad) H (fun ds=>.new (.row e' true true ds)) hs h (Mem.le_refl _) rfl (of_decide_eq_true hmax) (fun ds=>by simp[Eff.app]) he
      ·rename_i d0 ds0
       cases ys with
       | nil=>exact wp_value (hstay _ _ _ hs rfl (Nat.le_refl _)) (hn.same h he (.inr ⟨κ0,hs▸hrs'⟩))
       | cons y0 ys0=>
        simp only[List.isEmpty_cons,cond_false] at he
        cases hmax:decide ((d0::ds0).length+(y0::ys0).length≤maxLen) with
        | false=>rw[hmax] at he;simp at he
        | true=>
        rw[hmax] at he
        simp only[cond_true] at he
        have hos:os.length=(d0::ds0).length*P.cellsOf e':=by
         have:=(Reps.size T.szOk _ _ _ hxs).2 (List.replicate (d0::ds0).length e') (by simp)
         simpa using this
        obtain⟨w',μ',g0,g1,g2,g3⟩:=append_new T h hr hn ho hc hargs hts hk rfl hκu (xs:=d0::ds0) (os:=os) hs hlen (by simp) (of_decide_eq_true hmax) rfl hsrc hys
         (fun w' hw'=>by
          simp only[Builtin.firstCells]
          rw[←hos]
          refine run_loadCells hat.1 (fun j v hj=>?_)
          have:=hat.2 j v hj
          simp only[M_,memOf] at this
          split at this
          ·simp at this
          ·rw[cell_congr (hw' _)];exact this) hxs h (Mem.le_refl _)
        exact wp_value g0 (hn _ _ _ _ _ he g3 g1 g2)
     ·simp at he
    ·rename_i b off len hb
     split at he
     ·rename_i e' nn ds hH
      split at he
      ·rename_i hee
       subst hee
       cases hin:hint.inpl with
       | true=>
        rw[hin] at he
        simp only[cond_true] at he
        cases hmax:decide (off+len+ys.length≤ds.length) with
        | false=>rw[hmax] at he;simp at he
        | true=>
        rw[hmax] at he
        simp only[cond_true] at he
        simp only[decide_eq_true_eq] at hmax
        rw[hb] at hrs
        replace hrs:=hrs.resolve_left (by simp)
        obtain⟨κ0,hrs⟩:=hrs
        have hrs0:=hrs
        simp only[RV] at hrs
        obtain⟨l,n,e0,hμ,hl,hκ0,hlen',hx⟩:=hrs
        obtain⟨rfl,rfl⟩:=row_loc h hH hμ hl
        have hnil:∀{base:Option Addr} {cap:Nat},a.eval ao = .slice base len cap→len≤cap→ys=[]→o.wp P a w next Q:=by
         intro base cap hs hc hy
         subst hy
         have hset:H.set b (.row e0 true nn (ds.take (off+len)++[]++ds.drop (off+len+([]:List D).length)))=H:=by
          rw[List.append_nil,List.length_nil,Nat.add_zero,List.take_append_drop]
          exact List.set_getElem?_self_of hH
         refine wp_value (hstay _ _ _ hs rfl hc) (hn _ _ μ w _ he (.inr ⟨κ0,?_⟩) ?_ ?_)
         ·simp only[Eff.app,List.length_nil,Nat.add_zero]
          simp only[List.length_nil,Nat.add_zero] at hset
          rw[hset,←hs];exact hrs0
         ·simp only[Eff.app];rw[hset];exact h
         ·simp only[Eff.app];rw[hset];exact Fut.refl h
        rcases hx with ⟨hvirt,rfl,ad,hs,ha⟩ | ⟨hvirt,cap,hs,hlc,hoc,hreach⟩ | ⟨hvirt,rfl,hreach,ad,hs⟩
        ·have hobj:=h.obj b l _ hμ hH
         have hd0:ds=[]:=by simp only[ObjOk] at hobj;rw[if_pos hvirt] at hobj;exact hobj.2.2.2
         have hdl:ds.length=0:=by rw[hd0];rfl
         exact hnil hs (Nat.le_refl _) (List.eq_nil_of_length_eq_zero (by omega))
        ·obtain⟨w',hst,g1,g2⟩:=splice_ok T h hμ hH hvirt (p:=off+len) hys hmax
         have hrun:=run_append_in (T':=T) (ty0:=o.type) (base:=some ⟨l.blk,l.base+off*P.cellsOf e0,none⟩) (sLen:=len) (sCap:=cap) (under_slice T hk) hne hux hdx hlen (hsrc w (fun _=>rfl)) (by omega)
          (w':=w') (by simpa[addr_add,Nat.add_mul,Nat.add_assoc] using hst)
         obtain⟨cs',hex⟩:=run_builtin (a:=a) ho hc
         have hfin:(execOp a.eval o).run P w = .ok (.value (.slice (some ⟨l.blk,l.base+off*P.cellsOf e0,none⟩) (len+ys.length) cap)) w':=by
          rw[hex]
          simp only[Go.builtin]
          rw[ea,eb,hs]
          simp only[run_bind,hrun,run_pure]
         refine wp_value hfin (hn _ _ _ _ _ he (.inr ⟨.slice e0,?_⟩) g1 g2)
         simp only[RV]
         exact⟨l,ds.length,e0,hμ,hl,rfl,by omega,.inr (.inl ⟨hvirt,cap,rfl,by omega,hoc,hreach⟩)⟩
        ·exact hnil hs (Nat.le_refl _) (List.eq_nil_of_length_eq_zero (by omega))
       | false=>
       rw[hin] at he
       simp only[cond_false] at he
       cases hmax:decide (len+ys.length≤maxLen) with
       | false=>rw[hmax] at he;simp at he
       | true=>
       rw[hmax] at he
       simp only[cond_true] at he
       simp only[decide_eq_true_eq] at hmax
       rw[hb] at hrs
       replace hrs:=hrs.resolve_left (by simp)
       obtain⟨κ0,hrs⟩:=hrs
       simp only[RV] at hrs
       obtain⟨l,n,e0,hμ,hl,_,hlen',hx⟩:=hrs
       obtain⟨rfl,rfl⟩:=row_loc h hH hμ hl
       have hobj:=h.obj b l _ hμ hH
       obtain⟨hd1,hd2⟩:=h.less hμ hH (o':=.dead) (by simp[ownB]) (by simp[usesB]) (fun _ _=>trivial)
       have hdl:(H.set b .dead).length=H.length:=by simp
       have hlx:((ds.drop off).take len).length=len:=by simp;omega
       rcases hx with ⟨hvirt,rfl,ad,hs,ha⟩ | ⟨hvirt,cap,hs,hlc,hoc,hreach⟩ | ⟨hvirt,rfl,hreach,ad,hs⟩
       ·have hlnn:l.nn=nn:=by simp only[ObjOk] at hobj;exact hobj.2.1
        refine hempty ad (H.set b .dead) (fun ds'=>.kill b (.row e0 true (nn||!ys.isEmpty) ds')) hs hd1 hd2.mem hdl (by omega) (fun ds'=>by simp[Eff.app,ha,hlnn]) (by simpa using he)
       ·have hnn:nn=true:=by
         simp only[ObjOk] at hobj
         obtain⟨_,_,_,hb⟩:=hobj
         rw[if_neg (by simp[hvirt])] at hb
         exact hb.1
        subst hnn
        simp only[Bool.true_or] at he
        by_cases hroom:len+ys.length≤cap
        ·exact append_in T h hr hn ho hc hargs hts hk rfl hκu hμ hH hvirt hs hlc hoc hlen' hlen hroom hsrc hys he
        ·have hobj':=hobj
         simp only[ObjOk] at hobj'
         obtain⟨_,_,_,hb⟩:=hobj'
         rw[if_neg (by simp[hvirt])] at hb
         obtain⟨_,hcap,bs,et,fz,pre,mid,post,h1,h2,h3,h4,h5,h6,het⟩:=hb
         obtain⟨c1,cm,c2,e1,l1,l2,r1,_,_⟩:=Reps.drop_take T.szOk hne h4 hlen'
         obtain⟨w',μ',g0,g1,g2,g3⟩:=append_new T h hr hn ho hc hargs hts hk rfl hκu (xs:=(ds.drop off).take len) (os:=cm) hs hlen (by omega) hmax hlx hsrc hys
          (fun w' hw'=>by
           simp only[Builtin.firstCells]
           rw[←l2]
           refine run_loadCells rfl (fun j v hj=>?_)
           rw[cell_congr (hw' _)]
           have hcell:=block_cells h1 (c1:=pre++c1) (y:=cm) (c2:=c2++post) (by rw[h2,e1];simp) j v hj
           simpa[h3,l1,Nat.add_assoc] using hcell) (by rw[hlx];exact r1) hd1 hd2.mem
         rw[hdl] at g3
         exact wp_value g0 (hn _ _ _ _ _ he g3 g1 ⟨g2.loc,g2.len,Mem.le_trans hd2.mem g2.mem,g2.below,g2.dfr⟩)
       ·have hnn:nn=true:=by
         simp only[ObjOk] at hobj
         obtain⟨_,_,_,hb⟩:=hobj
         rw[if_neg (by simp[hvirt])] at hb
         exact hb.1
        subst hnn
        refine hempty (some ad) (H.set b .dead) (fun ds'=>.kill b (.row e0 true true ds')) hs hd1 hd2.mem hdl (by omega) (fun ds'=>by simp[Eff.app]) (by simpa using he)
      ·simp at he
     ·simp at he
    ·simp at he
   ·simp at he
  ·simp at he
 ·simp at he
end ops
end
end Go.AM
namespace Go.AM
open Go Go.RowKit
section
variable {P:Program} {ty:Nat→K} {cd:Cd} {X:List Nat} {B0:Nat} {w0:World}
section ops
variable {R:Type} {E:Env} {hint:Hint} {μ:List Loc} {H:List AObj} {w:World} {regs:List V} {a:Act} {o:Oper} {k:V→Eff→Option R} {r:R} {next:Act→World→Prop} {Q:Exit→Act→World→Prop}
variable (T:TyOk P E.ty) (h:HOk E.ty P.cellsOf E.rnd X B0 w0 μ H w) (hr:Regs P E.ty (M_ X μ H w) μ regs a.tmps) (hn:Nexts P E.ty E.rnd X B0 w0 μ H w a o.dst k r next)
theorem vals_one {xs:List Operand} {ts:List Nat} {s:V} {t:Nat} (hl:xs.length=ts.length) (h1:vals regs E.ty xs ts=[s]) (h2:ts=[t]):∃ao,xs=[ao]∧s=val regs (E.ty t) ao:=by
 subst h2
 match xs,hl with
 | [ao],_=>simp only[vals,List.cons.injEq,and_true] at h1;exact⟨ao,rfl,h1.symm⟩
include T h hr hn
theorem op_len {c:Call} (ho:o.op = .call c) (hc:c.callee = .builtin .len) (hl:c.args.toList.length=c.argTypes.toList.length) (he:evLen E H (vals regs E.ty c.args.toList c.argTypes.toList) c.argTypes.toList k=some r):o.wp P a w next Q:=by
 unfold evLen at he
 split at he
 ·rename_i v t hvs hts
  obtain⟨ao,hargs,rfl⟩:=vals_one hl hvs hts
  have hrs:=val_ok hr (E.ty t) ao
  have ea:c.argTypes = #[t]:=by apply Array.toList_inj.1;rw[hts]
  have eb:c.args.map a.eval = #[a.eval ao]:=by apply Array.toList_inj.1;simp[hargs]
  obtain⟨cs',hex⟩:=run_builtin (a:=a) ho hc
  have hfin:∀n:Int,(Builtin.len_ #[t] o.type #[a.eval ao]).run P w = .ok (.int .i64 n) w→k (.d (.int .i64) (.int .i64 n)) .none=some r→o.wp P a w next Q:=by
   intro n hrun hk
   refine wp_value (x:=.int .i64 n) (w':=w) ?_ (hn.same h hk (.inr ⟨.int .i64,by simp[RV,Rep]⟩))
   rw[hex]
   simp only[Go.builtin]
   rw[ea,eb]
   simp only[run_bind,hrun,run_pure]
  split at he
  ·rename_i hk
   split at he
   ·rename_i d hb
    rw[hb] at hrs
    replace hrs:=hrs.resolve_left (by simp)
    obtain⟨κ0,hrs⟩:=hrs
    simp only[RV] at hrs
    obtain⟨rfl,hrs⟩:=hrs
    have hx:=rep_str hrs
    refine hfin _ ?_ he
    simp only[Builtin.len_,List.getElem?_toArray,List.getElem?_cons_zero,hx]
    simp only[run_bind,run_underlying T (under_str T hk),run_pure,goInt]
   ·simp at he
  ·rename_i e hk
   have hsl:∀ad n cap,a.eval ao = .slice ad n cap→(Builtin.len_ #[t] o.type #[a.eval ao]).run P w = .ok (.int .i64 n) w:=by
    intro ad n cap hx
    simp only[Builtin.len_,List.getElem?_toArray,List.getElem?_cons_zero,hx]
    simp only[run_bind,run_underlying T (under_slice T hk),run_pure,goInt]
   split at he
   ·rename_i e' d hb
    split at he
    ·rename_i hee
     subst hee
     rw[hb] at hrs
     replace hrs:=hrs.resolve_left (by simp)
     obtain⟨κ0,hrs⟩:=hrs
     simp only[RV] at hrs
     obtain⟨rfl,hrs⟩:=hrs
     cases d with
     | slice nn ds=>
      simp only[Rep] at hrs
      obtain⟨_,ad,cap,_,hx,_⟩:=hrs
      exact hfin _ (hsl _ _ _ hx) he
     | agg ds=>simp[Rep,K.isAgg] at hrs
     | tup _=>simp[Rep] at hrs
     | _=>simp[Rep] at hrs
    ·simp at he
   ·rename_i e' ds hb
    rw[hb] at hrs
    replace hrs:=hrs.resolve_left (by simp)
    obtain⟨κ0,hrs⟩:=hrs
    simp only[RV] at hrs
    obtain⟨_,ad,cs,hx,_⟩:=hrs
    exact hfin _ (hsl _ _ _ hx) he
   ·rename_i b off n hb
    rw[hb] at hrs
    replace hrs:=hrs.resolve_left (by simp)
    obtain⟨κ0,hrs⟩:=hrs
    simp only[RV] at hrs
    obtain⟨l,m,e0,_,_,_,_,hx⟩:=hrs
    rcases hx with ⟨_,rfl,ad,hx,_⟩ | ⟨_,cap,hx,_⟩ | ⟨_,rfl,_,ad,hx⟩
    ·exact hfin _ (hsl _ _ _ hx) he
    ·exact hfin _ (hsl _ _ _ hx) he
    ·exact hfin _ (hsl _ _ _ hx) he
   ·simp at he
  ·rename_i ka ke hk
   split at he
   ·rename_i b hb
    split at he
    ·rename_i ka' ke' es hH
     rw[hb] at hrs
     replace hrs:=hrs.resolve_left (by simp)
     obtain⟨κ0,hrs⟩:=hrs
     simp only[RV] at hrs
     obtain⟨l,a',e',hμ,_,_,hx⟩:=hrs
     have hobj:=h.obj b l _ hμ hH
     simp only[ObjOk] at hobj
     obtain⟨_,_,_,ms,hblk,hent⟩:=hobj
     have hlen:∀(n:Nat) (es:List (D×D)) (ms:List MapEntry),Entries E.ty (memOf w (X++owned μ H)) (E.ty ka') (E.ty ke') n es ms→ms.length=es.length:=by
      intro n es
      induction es generalizing n with
      | nil=>intro ms hm;simp only[Entries] at hm;subst hm;rfl
      | cons x es ih=>intro ms hm;simp only[Entries] at hm;obtain⟨m,rest,rfl,_,_,_,hm⟩:=hm;simp[ih _ _ hm]
     refine hfin _ ?_ he
     simp only[Builtin.len_,List.getElem?_toArray,List.getElem?_cons_zero,hx]
     simp only[run_bind,run_underlying T (under_map T hk).1,getObj,Sem.run,hblk,run_pure,goInt]
     have:=hlen _ _ _ hent
     simp at this
     rw[this]
    ·simp at he
   ·simp at he
  ·rename_i m e hk
   refine hfin _ ?_ he
   simp only[Builtin.len_,List.getElem?_toArray,List.getElem?_cons_zero]
   simp only[run_bind,run_underlying T (under_array T hk).1,run_pure,goInt]
  ·simp at he
 ·simp at he
omit T h hn in
theorem maxInts_ok (kd:IntKind) (most:Bool):∀(vs:List V) (xs:List Value) (x y:Int),RVt E.ty P.cellsOf (M_ X μ H w) μ vs xs→maxInts kd most x vs=some y →
  (xs.foldlM (if most=true then Builtin.max2 else Builtin.min2) (Value.int kd x)).run P w = .ok (.int kd y) w
 | [],xs,x,y,hx,hm=>by
  simp only[RVt] at hx;subst hx
  simp only[maxInts,Option.some.injEq] at hm;subst hm
  simp[run_pure]
 | v::vs,xs,x,y,hx,hm=>by
  simp only[RVt] at hx
  obtain⟨z,rest,rfl,hz,hrest⟩:=hx
  cases v with
  | d κ d=>
   cases κ with
   | int k'=>
    simp only[maxInts] at hm
    split at hm
    ·rename_i hk
     subst hk
     replace hz:=hz.resolve_left (by simp)
     obtain⟨κ0,hz⟩:=hz
     simp only[RV] at hz
     obtain⟨rfl,hz⟩:=hz
     have:=rep_int hz
     subst this
     rw[List.foldlM_cons]
     cases most with
     | true=>
      simp only[if_true,Builtin.max2,run_bind,run_pure]
      simpa using maxInts_ok k' true vs rest _ y hrest (by simpa using hm)
     | false=>
      simp only[Bool.false_eq_true,if_false,Builtin.min2,run_bind,run_pure]
      simpa using maxInts_ok k' false vs rest _ y hrest (by simpa using hm)
    ·simp at hm
   | _=>simp[maxInts] at hm
  | _=>simp[maxInts] at hm
omit T h hn in
theorem RVt.of_vals':∀(xs:List Operand) (ts:List Nat),xs.length=ts.length→RVt E.ty P.cellsOf (M_ X μ H w) μ (vals regs E.ty xs ts) (xs.map a.eval)
 | [],[],_=>by simp[vals,RVt]
 | x::xs,t::ts,hl=>by
  simp only[vals,List.map_cons,RVt]
  exact⟨_,_,rfl,val_ok hr _ _,RVt.of_vals' xs ts (by simpa using hl)⟩
 | [],_::_,hl=>by simp at hl
 | _::_,[],hl=>by simp at hl
omit T in
theorem op_maxmin {c:Call} {most:Bool} (ho:o.op = .call c) (hc:c.callee = .builtin (if most=true then .max else .min)) (hl:c.args.toList.length=c.argTypes.toList.length) (he:evMaxMin most (vals regs E.ty c.args.toList c.argTypes.toList) k=some r):o.wp P a w next Q:=by
 unfold evMaxMin at he
 split at he
 ·rename_i kd d vs hvs
  split at he
  ·rename_i n hn'
   have hall:=RVt.of_vals' hr c.args.toList c.argTypes.toList hl
   rw[hvs] at hall
   simp only[RVt] at hall
   obtain⟨z,rest,hxs,hz,hrest⟩:=hall
   replace hz:=hz.resolve_left (by simp)
   obtain⟨κ0,hz⟩:=hz
   simp only[RV] at hz
   obtain⟨rfl,hz⟩:=hz
   have:=rep_int hz
   subst this
   have hm:=maxInts_ok hr kd most vs rest d.i n hrest hn'
   obtain⟨cs',hex⟩:=run_builtin (a:=a) ho hc
   have eb:(c.args.map a.eval).toList = .int kd d.i::rest:=by simp[hxs]
   refine wp_value (x:=.int kd n) (w':=w) ?_ (hn.same h he (.inr ⟨.int kd,by simp[RV,Rep]⟩))
   rw[hex]
   cases most with
   | true=>
    simp only[if_true,Go.builtin,Builtin.max_]
    rw[eb]
    simp only[if_true] at hm
    simp only[run_bind,hm,run_pure]
   | false=>
    simp only[Bool.false_eq_true,if_false,Go.builtin,Builtin.min_]
    rw[eb]
    simp only[Bool.false_eq_true,if_false] at hm
    simp only[run_bind,hm,run_pure]
  ·simp at he
 ·simp at he
theorem op_range {t:Nat} {x:Operand} (ho:o.op = .range t x) (he:evOp E hint H regs o.type (.range t x) k=some r):o.wp P a w next Q:=by
 simp only[evOp] at he
 have hv:=val_ok hr (E.ty t) x
 split at he
 ·rename_i d hk hb
  rw[hb] at hv
  replace hv:=hv.resolve_left (by simp)
  obtain⟨κ0,hv⟩:=hv
  simp only[RV] at hv
  obtain⟨rfl,hv⟩:=hv
  have hx:=rep_str hv
  obtain⟨h1,h2⟩:=HOk.newAt h (l:=⟨w.heap.size,0,0,.bad,false,false⟩) (o:=.iter d.s 0) (below_push (o:=.stringIter d.s 0)) (fun b hb=>by simp[usesB] at hb;omega) (fun M' hM=>by
   simp[ObjOk])
  refine wp_value (x:=.pointer (some ⟨w.heap.size,0,none⟩)) ?_ (hn _ _ _ _ _ he (.inr ⟨.bad,?_⟩) h1 h2)
  ·simp only[execOp,ho,Instr.range,hx]
   simp only[run_bind,run_underlying T (under_str T hk),run_pure,newObj,Sem.run]
  ·simp only[RV]
   refine⟨trivial,⟨w.heap.size,0,0,.bad,false,false⟩,?_,rfl,rfl⟩
   rw[←h.len];simp
 ·simp at he
omit T in
theorem op_next {x:Operand} {b:Bool} (ho:o.op = .next x b) (he:evOp E hint H regs o.type (.next x b) k=some r):o.wp P a w next Q:=by
 simp only[evOp] at he
 have hv:=val_ok hr .bad x
 split at he
 ·rename_i bi hb
  rw[hb] at hv
  replace hv:=hv.resolve_left (by simp)
  obtain⟨κ0,hv⟩:=hv
  simp only[RV] at hv
  obtain⟨_,l,hμ,_,hx⟩:=hv
  split at he
  ·rename_i s pos hH
   have hobj:=h.obj bi l _ hμ hH
   simp only[ObjOk] at hobj
   cases hp:decide (pos<s.size) with
   | true=>
    rw[hp] at he
    simp only[] at he
    have hpos:pos<s.size:=by simpa using hp
    obtain⟨h1,h2⟩:=HOk.put h (o':=.iter s (pos+(Utf8.decode s pos).2)) (obj:=.stringIter s (pos+(Utf8.decode s pos).2)) hμ hH rfl rfl (by
     simp only[ObjOk]
     rw[putBlk_heap,if_pos ⟨rfl,lt_of_block hobj⟩])
    refine wp_value (x:=.tuple #[.bool true,.int .i64 pos,.int .i32 (Utf8.decode s pos).1]) ?_ (hn _ _ _ _ _ he (.inr ⟨.bad,?_⟩) h1 h2)
    ·simp only[execOp,ho,Instr.next,hx]
     simp only[run_bind,getObj,setObj,Sem.run,hobj,run_pure,hpos,if_true,goInt,putBlk]
    ·simp only[RV]
     refine⟨trivial,_,rfl,?_⟩
     simp[RVt,RV,Rep]
   | false=>
    rw[hp] at he
    simp only[] at he
    have hpos:¬pos<s.size:=by simpa using hp
    refine wp_value (x:=.tuple #[.bool false]) (w':=w) ?_ (hn.same h he (.inr ⟨.bad,?_⟩))
    ·simp only[execOp,ho,Instr.next,hx]
     simp only[run_bind,getObj,Sem.run,hobj,run_pure,hpos,if_false]
    ·simp only[RV]
     refine⟨trivial,_,rfl,?_⟩
     simp[RVt,RV,Rep]
  ·simp at he
 ·simp at he
end ops
end
end Go.AM
