/- Part 4 of the proof: the abstract machine, what the functions compute, and plain laws over that. -/
import Derived.Test.YtmbnifmpbafcjaaGreatDoorIp3
import Derived.OrdersIn
import Derived.LoopNIn
import Derived.RangeFuncRecord
import Derived.RangeFuncCalls
set_option linter.all false
set_option linter.unusedSimpArgs false
set_option linter.unusedVariables false
set_option linter.unusedSectionVars false
namespace Go.AM
open Go Go.RowKit
section
variable {P:Program} {ty:Nat→K} {cd:Cd} {X:List Nat} {B0:Nat} {w0:World}
section ops
variable {R:Type} {E:Env} {hint:Hint} {μ:List Loc} {H:List AObj} {w:World} {regs:List V} {a:Act} {o:Oper} {k:V→Eff→Option R} {r:R} {next:Act→World→Prop} {Q:Exit→Act→World→Prop}
variable (T:TyOk P E.ty) (h:HOk E.ty P.cellsOf E.rnd X B0 w0 μ H w) (hr:Regs P E.ty (M_ X μ H w) μ regs a.tmps) (hn:Nexts P E.ty E.rnd X B0 w0 μ H w a o.dst k r next)
include T h hr hn
theorem op_clear {c:Call} (ho:o.op = .call c) (hc:c.callee = .builtin .clear) (hl:c.args.toList.length=c.argTypes.toList.length) (he:evClear E H (vals regs E.ty c.args.toList c.argTypes.toList) c.argTypes.toList k=some r):o.wp P a w next Q:=by
 unfold evClear at he
 split at he
 ·rename_i b off len t hvs hts
  obtain⟨ao,hargs,hb⟩:=vals_one hl hvs hts
  have hrs:=val_ok hr (E.ty t) ao
  split at he
  ·rename_i e hk
   have hne:=under_slice_ne T hk
   split at he
   ·rename_i e' nn ds hH
    split at he
    ·rename_i hee
     subst hee
     have ea:c.argTypes = #[t]:=by apply Array.toList_inj.1;rw[hts]
     have eb:c.args.map a.eval = #[a.eval ao]:=by apply Array.toList_inj.1;simp[hargs]
     rw[←hb] at hrs
     replace hrs:=hrs.resolve_left (by simp)
     obtain⟨κ0,hrs⟩:=hrs
     simp only[RV] at hrs
     obtain⟨l,n,e0,hμ,hl',hκ0,hlen',hx⟩:=hrs
     obtain⟨rfl,rfl⟩:=row_loc h hH hμ hl'
     have hfin:∀w':World,(Builtin.clear_ c.argTypes o.type (c.args.map a.eval)).run P w = .ok (.tuple #[]) w'→(execOp a.eval o).run P w = .ok (.value (.tuple #[])) w':=by
      intro w' hrun
      obtain⟨cs',hex⟩:=run_builtin (a:=a) ho hc
      rw[hex]
      simp only[Go.builtin,run_bind,hrun,run_pure]
     have hnil:∀{base:Option Addr} {cap:Nat},a.eval ao = .slice base 0 cap→len=0→o.wp P a w next Q:=by
      intro base cap hs hy
      subst hy
      have hset:H.set b (.row e0 true nn (ds.take off++List.replicate 0 (zero E.ty (E.ty e0))++ds.drop (off+0)))=H:=by
       rw[List.replicate_zero,List.append_nil,Nat.add_zero,List.take_append_drop]
       exact List.set_getElem?_self_of hH
      refine wp_value (hfin w ?_) (hn _ _ μ w _ he (.inl rfl) ?_ ?_)
      ·rw[ea,eb,hs]
       simp only[Builtin.clear_]
       cases base<;>simp[run_bind,run_underlying T (under_slice T hk),run_pure]
      ·simp only[Eff.app];rw[hset];exact h
      ·simp only[Eff.app];rw[hset];exact Fut.refl h
     rcases hx with ⟨hvirt,hl0,ad,hs,ha⟩ | ⟨hvirt,cap,hs,hlc,hoc,hreach⟩ | ⟨hvirt,hl0,hreach,ad,hs⟩
     ·exact hnil hs hl0
     ·by_cases hl0:len=0
      ·exact hnil (hl0▸hs) hl0
      ·obtain⟨z,hz,hzr⟩:=run_zeroValue T hne w
       have hys:Reps E.ty (M_ X μ H w) (List.replicate len (zero E.ty (E.ty e0))) (List.replicate (List.replicate len (zero E.ty (E.ty e0))).length (E.ty e0)) (List.replicate len z.cells.toList).flatten:=by
        rw[List.length_replicate];exact reps_zero (hzr _) len
       obtain⟨w',hst,g1,g2⟩:=splice_ok T h hμ hH hvirt (p:=off) hys (by simpa using hlen')
       rw[List.length_replicate] at g1 g2
       refine wp_value (hfin w' ?_) (hn _ _ _ _ _ he (.inl rfl) g1 g2)
       rw[ea,eb,hs]
       simp only[Builtin.clear_]
       obtain⟨n,rfl⟩:∃n,len=n+1:=⟨len-1,by omega⟩
       have hzc:(Builtin.zeroCells z.cells (n+1)).toList=(List.replicate (n+1) z.cells.toList).flatten:=by
        rw[←zero_cells];simp[Builtin.zeroCells]
       simp[run_bind,run_underlying T (under_slice T hk),hz,hzc,hst,run_pure]
     ·exact hnil hs hl0
    ·simp at he
   ·simp at he
  ·simp at he
 ·simp at he
theorem op_copy {c:Call} (ho:o.op = .call c) (hc:c.callee = .builtin .copy) (hl:c.args.toList.length=c.argTypes.toList.length) (he:evCopy E H (vals regs E.ty c.args.toList c.argTypes.toList) c.argTypes.toList k=some r):o.wp P a w next Q:=by
 unfold evCopy at he
 split at he
 ·rename_i b off len x t u hvs hts
  obtain⟨ao,bo,hargs,hb,rfl⟩:=vals_two hl hvs hts
  have hrs:=val_ok hr (E.ty t) ao
  split at he
  ·rename_i e hk
   have hne:=under_slice_ne T hk
   split at he
   ·rename_i ys hlit
    have hrx:=val_ok hr (E.ty u) bo
    obtain⟨hlen,⟨cs,hsrc,hys⟩,hκu⟩:=src_ok' T h hrx hlit
    split at he
    ·rename_i e' nn ds hH
     split at he
     ·rename_i hee
      subst hee
      have ea:c.argTypes = #[t,u]:=by apply Array.toList_inj.1;rw[hts]
      have eb:c.args.map a.eval = #[a.eval ao,a.eval bo]:=by apply Array.toList_inj.1;simp[hargs]
      rw[←hb] at hrs
      replace hrs:=hrs.resolve_left (by simp)
      obtain⟨κ0,hrs⟩:=hrs
      simp only[RV] at hrs
      obtain⟨l,n,e0,hμ,hl',hκ0,hlen',hx⟩:=hrs
      obtain⟨rfl,rfl⟩:=row_loc h hH hμ hl'
      have hcsl:cs.length=ys.length*P.cellsOf e0:=by
       have:=(Reps.size T.szOk _ _ _ hys).2 (List.replicate ys.length e0) (by simp)
       simpa using this
      have hfin:∀(m:Nat) (w':World),(Builtin.copy_ c.argTypes o.type (c.args.map a.eval)).run P w = .ok (.int .i64 m) w'→(execOp a.eval o).run P w = .ok (.value (.int .i64 m)) w':=by
       intro m w' hrun
       obtain⟨cs',hex⟩:=run_builtin (a:=a) ho hc
       rw[hex]
       simp only[Go.builtin,run_bind,hrun,run_pure]
      have hrunc:∀{base:Option Addr} {cap:Nat} {w':World},a.eval ao = .slice base len cap→(match base with | some ad=>(storeCells ad (cs.take (min ys.length len*P.cellsOf e0))).run P w = .ok () w' | none=>w=w') →
        (Builtin.copy_ c.argTypes o.type (c.args.map a.eval)).run P w = .ok (.int .i64 (min ys.length len:Nat)) w':=by
       intro base cap w' hs hst
       rw[ea,eb,hs]
       have h1:=hsrc w (fun _=>rfl) (min ys.length len) (Nat.min_le_left _ _)
       cases base with
       | none=>
        simp only at hst
        subst hst
        simp[Builtin.copy_,run_bind,run_underlying T (under_slice T hk),hlen,run_sizeOf T hne,h1,run_pure,goInt]
       | some ad=>
        simp only at hst
        simp[Builtin.copy_,run_bind,run_underlying T (under_slice T hk),hlen,run_sizeOf T hne,h1,hst,run_pure,goInt]
      have hnil:∀{base:Option Addr} {cap:Nat},a.eval ao = .slice base 0 cap→len=0→o.wp P a w next Q:=by
       intro base cap hs hy
       subst hy
       have hset:H.set b (.row e0 true nn (ds.take off++ys.take (min ys.length 0)++ds.drop (off+min ys.length 0)))=H:=by
        rw[Nat.min_zero,List.take_zero,List.append_nil,Nat.add_zero,List.take_append_drop]
        exact List.set_getElem?_self_of hH
       refine wp_value (hfin _ w (hrunc hs ?_)) (hn _ _ μ w _ he (.inr ⟨.int .i64,by simp[RV,Rep]⟩) ?_ ?_)
       ·cases base<;>simp[storeCells,run_pure]
       ·simp only[Eff.app];rw[hset];exact h
       ·simp only[Eff.app];rw[hset];exact Fut.refl h
      rcases hx with ⟨hvirt,hl0,ad,hs,ha⟩ | ⟨hvirt,cap,hs,hlc,hoc,hreach⟩ | ⟨hvirt,hl0,hreach,ad,hs⟩
      ·exact hnil hs hl0
      ·have hm:min ys.length len≤ys.length:=Nat.min_le_left _ _
       have hm2:min ys.length len≤len:=Nat.min_le_right _ _
       have hty:(ys.take (min ys.length len)).length=min ys.length len:=by simp
       obtain⟨c1,cm,c2,e1,l1,l2,r1,r0,r2⟩:=Reps.drop_take T.szOk hne hys (i:=0) (n:=min ys.length len) (by omega)
       have hc10:c1=[]:=List.eq_nil_of_length_eq_zero (by simpa using l1)
       subst hc10
       have hcm:cm=cs.take (min ys.length len*P.cellsOf e0):=by
        rw[e1,←l2];simp
       have hys':Reps E.ty (M_ X μ H w) (ys.take (min ys.length len)) (List.replicate (ys.take (min ys.length len)).length (E.ty e0)) (cs.take (min ys.length len*P.cellsOf e0)):=by
        rw[hty,←hcm];simpa using r1
       obtain⟨w',hst,g1,g2⟩:=splice_ok T h hμ hH hvirt (p:=off) hys' (by rw[hty];omega)
       rw[hty] at g1 g2
       exact wp_value (hfin _ w' (hrunc hs hst)) (hn _ _ _ _ _ he (.inr ⟨.int .i64,by simp[RV,Rep]⟩) g1 g2)
      ·exact hnil hs hl0
     ·simp at he
    ·simp at he
   ·simp at he
  ·simp at he
 ·simp at he
end ops
end
end Go.AM
namespace Go.AM
open Go Go.RowKit
section
variable {P:Program} {ty:Nat→K} {cd:Cd} {X:List Nat} {B0:Nat} {w0:World}
theorem Entries.length {M:Mem} {κa κe:K}:∀{n:Nat} {es:List (D×D)} {ms:List MapEntry},Entries ty M κa κe n es ms→ms.length=es.length
 | _,[],_,h=>by simp only[Entries] at h;subst h;rfl
 | n,x::es,ms,h=>by
  simp only[Entries] at h
  obtain⟨m,rest,rfl,_,_,_,h⟩:=h
  simp[Entries.length h]
theorem Entries.get {M:Mem} {κa κe:K}:∀{n:Nat} {es:List (D×D)} {ms:List MapEntry},Entries ty M κa κe n es ms→∀{i:Nat} {x:D×D},es[i]? = some x→∃m,ms[i]? = some m∧Rep ty M x.1 κa m.key∧Rep ty M x.2 κe m.val∧m.born=n+i
 | _,[],_,h,i,x,hx=>by simp at hx
 | n,y::es,ms,h,i,x,hx=>by
  simp only[Entries] at h
  obtain⟨m,rest,rfl,h1,h2,h3,h4⟩:=h
  cases i with
  | zero=>simp only[List.getElem?_cons_zero,Option.some.injEq] at hx;subst hx;exact⟨m,rfl,h1,h2,by simpa using h3⟩
  | succ i=>
   obtain⟨m',g1,g2,g3,g4⟩:=Entries.get h4 (i:=i) (by simpa using hx)
   exact⟨m',by simpa using g1,g2,g3,by omega⟩
theorem Entries.append {M:Mem} {κa κe:K} {x:D×D} {m:MapEntry} (h1:Rep ty M x.1 κa m.key) (h2:Rep ty M x.2 κe m.val):∀{n:Nat} {es:List (D×D)} {ms:List MapEntry},Entries ty M κa κe n es ms→m.born=n+es.length→Entries ty M κa κe n (es++[x]) (ms++[m])
 | n,[],ms,h,hb=>by
  simp only[Entries] at h;subst h
  simp only[List.nil_append,Entries]
  exact⟨m,[],rfl,h1,h2,by simpa using hb,rfl⟩
 | n,y::es,ms,h,hb=>by
  simp only[Entries] at h
  obtain⟨m',rest,rfl,g1,g2,g3,g4⟩:=h
  simp only[List.cons_append,Entries]
  exact⟨m',_,rfl,g1,g2,g3,Entries.append h1 h2 g4 (by simp at hb;omega)⟩
theorem Entries.set {M:Mem} {κa κe:K} {x:D×D} {f:MapEntry→MapEntry}:∀{n:Nat} {es:List (D×D)} {ms:List MapEntry} {i:Nat},Entries ty M κa κe n es ms→(∀m,ms[i]? = some m→Rep ty M x.1 κa (f m).key∧Rep ty M x.2 κe (f m).val∧(f m).born=m.born)→Entries ty M κa κe n (es.set i x) (ms.modify i f)
 | n,[],ms,i,h,_=>by simp only[Entries] at h;subst h;simp[Entries]
 | n,y::es,ms,i,h,hf=>by
  simp only[Entries] at h
  obtain⟨m',rest,rfl,g1,g2,g3,g4⟩:=h
  cases i with
  | zero=>
   obtain⟨k1,k2,k3⟩:=hf m' (by simp)
   simp only[List.set_cons_zero,List.modify_zero_cons,Entries]
   exact⟨f m',rest,rfl,k1,k2,by rw[k3];exact g3,g4⟩
  | succ i=>
   simp only[List.set_cons_succ,List.modify_succ_cons,Entries]
   exact⟨m',_,rfl,g1,g2,g3,Entries.set g4 (fun m hm=>hf m (by simpa using hm))⟩
theorem ba_eq {a b:ByteArray} (h:(a==b)=true):a=b:=by
 cases a;cases b
 rename_i x y
 have:(x==y)=true:=h
 rw[eq_of_beq this]
theorem ba_refl (a:ByteArray):(a==a)=true:=by
 cases a
 rename_i x
 show (x==x)=true
 simp
theorem sameNow_ok {M M':Mem} {κ:K} {x y:D} {u v:Value} {d:TypeDesc} (hk:keyK κ=true) (hd:match κ with | .int k=>d = .int k | .str=>d = .string | _=>True) (hx:Rep ty M x κ u) (hy:Rep ty M' y κ v) :
  Instr.sameNow d u v=some (keyEq κ x y)∧(keyEq κ x y=true→u=v):=by
 cases κ with
 | int k=>
  simp only at hd
  subst hd
  have h1:=rep_int hx
  have h2:=rep_int hy
  subst h1 h2
  simp only[Instr.sameNow,keyEq]
  refine⟨by simp,fun h=>?_⟩
  have:x.i=y.i:=by simpa using h
  rw[this]
 | str=>
  simp only at hd
  subst hd
  have h1:=rep_str hx
  have h2:=rep_str hy
  subst h1 h2
  simp only[Instr.sameNow,keyEq]
  exact⟨trivial,fun h=>by rw[ba_eq h]⟩
 | _=>simp[keyK] at hk
theorem findNow_ok {M M':Mem} {κ κe:K} {x:D} {u:Value} {d:TypeDesc} (hk:keyK κ=true) (hd:match κ with | .int k=>d = .int k | .str=>d = .string | _=>True) (hx:Rep ty M x κ u) :
  ∀{n:Nat} {es:List (D×D)} {ms:List MapEntry} (i:Nat),Entries ty M' κ κe n es ms→∀q,PlaceOk κ x es q →
   (match q with
    | none=>Instr.findNow d u ms i=some none
    | some j=>∃m,ms[j]? = some m∧Instr.findNow d u ms i=some (some (i+j,m.val))∧m.key=u)
 | n,[],ms,i,h,q,hq=>by
  simp only[Entries] at h;subst h
  cases q with
  | none=>rfl
  | some j=>obtain⟨e,he,_⟩:=hq;simp at he
 | n,e::es,ms,i,h,q,hq=>by
  simp only[Entries] at h
  obtain⟨m,rest,rfl,g1,g2,g3,g4⟩:=h
  obtain⟨s1,s2⟩:=sameNow_ok hk hd hx g1
  cases q with
  | none=>
   have he:keyEq κ x e.1=false:=hq e (by simp)
   rw[he] at s1
   simp only[Instr.findNow,s1]
   exact findNow_ok hk hd hx (i+1) g4 none (fun e' h'=>hq e' (by simp[h']))
  | some j=>
   obtain⟨e',he',hke,hlt⟩:=hq
   cases j with
   | zero=>
    simp only[List.getElem?_cons_zero,Option.some.injEq] at he'
    subst he'
    rw[hke] at s1
    refine⟨m,by simp,?_,(s2 hke).symm⟩
    simp only[Instr.findNow,s1,Nat.add_zero]
   | succ j=>
    have he:keyEq κ x e.1=false:=hlt 0 e (by omega) (by simp)
    rw[he] at s1
    obtain⟨m',k1,k2,k3⟩:=findNow_ok hk hd hx (i+1) g4 (some j) ⟨e',by simpa using he',hke,fun j' e'' hj h''=>hlt (j'+1) e'' (by omega) (by simpa using h'')⟩
    refine⟨m',by simpa using k1,?_,k3⟩
    simp only[Instr.findNow,s1]
    rw[k2]
    congr 2
    simp;omega
theorem run_checkKey {t:Nat} {κ:K} (T:TyOk P ty) (ht:ty t=κ) (hk:keyK κ=true) {b:Bool} {n:Nat} {v:Value} (w:World):(Instr.checkKey b (n+1) t v).run P w = .ok () w:=by
 cases κ with
 | int k=>simp only[Instr.checkKey,run_bind,run_underlying T (under_int T ht),run_pure]
 | str=>simp only[Instr.checkKey,run_bind,run_underlying T (under_str T ht),run_pure]
 | _=>simp[keyK] at hk
theorem run_findKey {t:Nat} {κ κe:K} (T:TyOk P ty) (ht:ty t=κ) (hk:keyK κ=true) {M M':Mem} {x:D} {u:Value} (hx:Rep ty M x κ u) {es:List (D×D)} {ms:List MapEntry} (he:Entries ty M' κ κe 0 es ms) {q:Option Nat} (hq:PlaceOk κ x es q) (w:World) :
  match q with
  | none=>(Instr.findKey t u ms).run P w = .ok none w
  | some j=>∃m,ms[j]? = some m∧(Instr.findKey t u ms).run P w = .ok (some (j,m.val)) w∧m.key=u:=by
 cases κ with
 | int k=>
  have hd:=under_int T ht
  have h:=findNow_ok (d:=.int k) hk rfl hx 0 he q hq
  cases q with
  | none=>simp only[Instr.findKey,run_bind,run_underlying T hd,h,run_pure]
  | some j=>
   obtain⟨m,h1,h2,h3⟩:=h
   exact⟨m,h1,by simp only[Instr.findKey,run_bind,run_underlying T hd,h2,run_pure,Nat.zero_add],h3⟩
 | str=>
  have hd:=under_str T ht
  have h:=findNow_ok (d:=.string) hk rfl hx 0 he q hq
  cases q with
  | none=>simp only[Instr.findKey,run_bind,run_underlying T hd,h,run_pure]
  | some j=>
   obtain⟨m,h1,h2,h3⟩:=h
   exact⟨m,h1,by simp only[Instr.findKey,run_bind,run_underlying T hd,h2,run_pure,Nat.zero_add],h3⟩
 | _=>simp[keyK] at hk
variable {R:Type} {E:Env} {hint:Hint} {μ:List Loc} {H:List AObj} {w:World} {regs:List V} {a:Act} {o:Oper} {k:V→Eff→Option R} {r:R} {next:Act→World→Prop} {Q:Exit→Act→World→Prop}
variable (T:TyOk P E.ty) (h:HOk E.ty P.cellsOf E.rnd X B0 w0 μ H w) (hr:Regs P E.ty (M_ X μ H w) μ regs a.tmps) (hn:Nexts P E.ty E.rnd X B0 w0 μ H w a o.dst k r next)
include T h hr hn
theorem op_makeMap {t:Nat} {x:Option Operand} (ho:o.op = .makeMap t x) (he:evOp E hint H regs o.type (.makeMap t x) k=some r):o.wp P a w next Q:=by
 simp only[evOp] at he
 split at he
 ·rename_i ka e hk
  obtain⟨_,hka,hke⟩:=under_map T hk
  obtain⟨h1,h2⟩:=HOk.newAt h (l:=⟨w.heap.size,0,0,.map ka e,false,false⟩) (o:=.map ka e []) (below_push (o:=.map #[] 0)) (fun b hb=>by simp[usesB] at hb;omega) (fun M' hM=>by
   simp only[ObjOk]
   exact⟨trivial,hka,hke,#[],by simp,by simp[Entries]⟩)
  refine wp_value (x:=.map (some w.heap.size)) ?_ (hn _ _ _ _ _ he (.inr ⟨.map ka e,?_⟩) h1 h2)
  ·simp only[execOp,ho,Instr.makeMap]
   simp only[run_bind,run_pure,newObj,Sem.run]
   simp[Sem.run]
  ·simp only[RV]
   refine⟨⟨w.heap.size,0,0,.map ka e,false,false⟩,ka,e,?_,rfl,rfl,rfl⟩
   rw[←h.len];simp
 ·simp at he
theorem op_insert {t:Nat} {m key v:Operand} (ho:o.op = .insert t m key v∨o.op = .mapUpdate t m key v) (he:evInsert E H regs t m key v k=some r):o.wp P a w next Q:=by
 unfold evInsert at he
 split at he
 ·rename_i ka e b hk hm
  split at he
  ·rename_i ka' e' es hH
   split at he
   ·rename_i κ x κ' y hx hy
    split at he
    ·rename_i hc
     obtain⟨rfl,rfl,rfl,rfl,hkk⟩:=hc
     obtain⟨q,hq,hpl⟩:=assocK_ok [] es (by simp) he
     simp only[List.nil_append] at hpl
     have hv:=val_ok hr (E.ty t) m
     rw[hm] at hv
     replace hv:=hv.resolve_left (by simp)
     obtain⟨κ0,hv⟩:=hv
     simp only[RV] at hv
     obtain⟨l,a1,e1,hμ,hl,_,hmv⟩:=hv
     have hobj:=h.obj b l _ hμ hH
     simp only[ObjOk] at hobj
     obtain⟨_,hka,hke,ms,hblk,hes⟩:=hobj
     have hxr:=val_ok hr (E.ty ka') key
     rw[hx] at hxr
     replace hxr:=hxr.resolve_left (by simp)
     obtain⟨κ1,hxr⟩:=hxr
     simp only[RV] at hxr
     obtain⟨rfl,hxr⟩:=hxr
     have hyr:=val_ok hr (E.ty e') v
     rw[hy] at hyr
     replace hyr:=hyr.resolve_left (by simp)
     obtain⟨κ2,hyr⟩:=hyr
     simp only[RV] at hyr
     obtain⟨rfl,hyr⟩:=hyr
     obtain⟨hu,_,_⟩:=under_map T hk
     have hmsl:=hes.length
     have hlt:=lt_of_block hblk
     have hfind:=run_findKey T rfl hkk hxr hes hpl w
     have hrun:∃ms' c',(Instr.mapUpdate t (.map (some l.blk)) (a.eval key) (a.eval v)).run P w = .ok () (putBlk w l.blk (.map ms' c'))∧c'=(entrySet es x y q).length∧Entries E.ty (memOf w (X++owned μ H)) (E.ty ka') (E.ty e') 0 (entrySet es x y q) ms'.toList:=by
      cases q with
      | none=>
       refine⟨ms.push { key:=a.eval key,val:=a.eval v,born:=es.length },es.length+1,?_,by simp[entrySet],?_⟩
       ·simp only[Instr.mapUpdate,run_bind,run_underlying T hu,getObj,setObj,Sem.run,hblk,run_checkKey T rfl hkk,hfind,run_pure,putBlk]
       ·simp only[entrySet,Array.toList_push]
        exact Entries.append hxr hyr hes (by simp)
      | some j=>
       obtain⟨mm,g1,g2,g3⟩:=hfind
       obtain⟨en,hen,_,_⟩:=hpl
       have hj:j<es.length:=(List.getElem?_eq_some_iff.1 hen).1
       have hmj:ms[j]? = some mm:=by rw[←Array.getElem?_toList];exact g1
       refine⟨ms.modify j fun e=>{ e with key:=a.eval key,val:=a.eval v },es.length,?_,by simp[entrySet],?_⟩
       ·simp only[Instr.mapUpdate,run_bind,run_underlying T hu,getObj,setObj,Sem.run,hblk,run_checkKey T rfl hkk,g2,run_pure,putBlk]
        have hstay:(Instr.keyThatStays (((ms[j]?).map (·.key)).getD (a.eval key)) (a.eval key)).run P w = .ok (a.eval key) w:=by
         rw[hmj]
         simp only[Option.map_some,Option.getD_some,g3,Instr.keyThatStays]
         have hsame:Instr.sameBits 10000 (a.eval key) (a.eval key)=true:=by
          cases hκ:E.ty ka' with
          | int kk=>rw[hκ] at hxr;rw[rep_int hxr];simp[Instr.sameBits]
          | str=>rw[hκ] at hxr;rw[rep_str hxr];simp only[Instr.sameBits];exact ba_refl _
          | _=>rw[hκ] at hkk;simp[keyK] at hkk
         rw[if_pos hsame]
         exact run_pure ..
        simp only[hstay,run_bind,run_pure,getObj,setObj,Sem.run,hblk]
       ·simp only[entrySet,Array.toList_modify]
        exact Entries.set hes (fun m0 hm0=>⟨hxr,hyr,rfl⟩)
     obtain⟨ms',c',hr1,hc',hes'⟩:=hrun
     obtain⟨h1,h2⟩:=HOk.put h (o':=.map ka' e' (entrySet es x y q)) (obj:=.map ms' c') hμ hH rfl rfl (by
      simp only[ObjOk]
      exact⟨by rw[hl];first | rfl | (have:=h.obj b l _ hμ hH;simp only[ObjOk] at this;rw[←hl];exact this.1),hka,hke,ms',by rw[putBlk_heap,if_pos ⟨rfl,hlt⟩,hc'],hes'⟩)
     refine wp_skip' (w':=putBlk w l.blk (.map ms' c')) ?_ (hn _ _ _ _ _ hq (.inl rfl) h1 h2)
     rcases ho with ho | ho
     ·simp only[execOp,ho,hmv,run_bind,hr1,run_pure]
     ·simp only[execOp,ho,hmv,run_bind,hr1,run_pure]
    ·simp at he
   ·simp at he
  ·simp at he
 ·simp at he
theorem op_lookup {t:Nat} {m key:Operand} {ok:Bool} (ho:o.op = .lookup t m key ok) (he:evLookup E H regs t m key ok k=some r):o.wp P a w next Q:=by
 unfold evLookup at he
 split at he
 ·rename_i ka e b hk hm
  split at he
  ·rename_i ka' e' es hH
   split at he
   ·rename_i κ x hx
    split at he
    ·rename_i hc
     obtain⟨rfl,rfl,rfl,hkk⟩:=hc
     obtain⟨q,hq,hpl⟩:=assocK_ok [] es (by simp) he
     simp only[List.nil_append] at hpl
     have hv:=val_ok hr (E.ty t) m
     rw[hm] at hv
     replace hv:=hv.resolve_left (by simp)
     obtain⟨κ0,hv⟩:=hv
     simp only[RV] at hv
     obtain⟨l,a1,e1,hμ,hl,_,hmv⟩:=hv
     have hobj:=h.obj b l _ hμ hH
     simp only[ObjOk] at hobj
     obtain⟨_,hka,hke,ms,hblk,hes⟩:=hobj
     have hxr:=val_ok hr (E.ty ka') key
     rw[hx] at hxr
     replace hxr:=hxr.resolve_left (by simp)
     obtain⟨κ1,hxr⟩:=hxr
     simp only[RV] at hxr
     obtain⟨rfl,hxr⟩:=hxr
     obtain⟨hu,_,_⟩:=under_map T hk
     have hfind:=run_findKey T rfl hkk hxr hes hpl w
     obtain⟨z,hz,hzr⟩:=run_zeroValue T hke w
     have hrun:∃y,(Instr.lookup t (.map (some l.blk)) (a.eval key) ok).run P w = .ok (if ok=true then .tuple #[y,.bool q.isSome] else y) w∧Rep E.ty (M_ X μ H w) (entryVal es (zero E.ty (E.ty e')) q) (E.ty e') y:=by
      cases q with
      | none=>
       refine⟨z,?_,hzr _⟩
       simp only[Instr.lookup,run_bind,run_underlying T hu,getObj,Sem.run,hblk,run_checkKey T rfl hkk,hfind,hz,run_pure,Option.isSome_none]
      | some j=>
       obtain⟨mm,g1,g2,g3⟩:=hfind
       obtain⟨en,hen,_,_⟩:=hpl
       obtain⟨m',k1,k2,k3,k4⟩:=hes.get hen
       rw[g1] at k1
       simp only[Option.some.injEq] at k1
       subst k1
       refine⟨mm.val,?_,by simp only[entryVal,hen];exact k3⟩
       simp only[Instr.lookup,run_bind,run_underlying T hu,getObj,Sem.run,hblk,run_checkKey T rfl hkk,g2,run_pure,Option.isSome_some]
     obtain⟨y,hr1,hyr⟩:=hrun
     cases ok with
     | true=>
      simp only[cond_true] at hq
      refine wp_value (x:=.tuple #[y,.bool q.isSome]) (w':=w) ?_ (hn.same h hq (.inr ⟨.bad,?_⟩))
      ·simp only[execOp,ho,hmv,run_bind,hr1,run_pure];rfl
      ·simp only[RV]
       refine⟨trivial,_,rfl,?_⟩
       simp only[RVt]
       refine⟨y,_,rfl,.inr ⟨E.ty e',by simp only[RV];exact⟨trivial,hyr⟩⟩,.bool q.isSome,[],rfl,.inr ⟨.bool,by simp[RV,Rep]⟩,rfl⟩
     | false=>
      simp only[cond_false] at hq
      refine wp_value (x:=y) (w':=w) ?_ (hn.same h hq (.inr ⟨E.ty e',by simp only[RV];exact⟨trivial,hyr⟩⟩))
      simp only[execOp,ho,hmv,run_bind,hr1,run_pure];rfl
    ·simp at he
   ·simp at he
  ·simp at he
 ·simp at he
end
end Go.AM
namespace Go.AM
open Go Go.RowKit
section
variable {P:Program} {ty:Nat→K} {cd:Cd} {X:List Nat} {B0:Nat} {w0:World}
theorem keyF_cmp:∀(n m:Nat) (κ:K),n≤m→K.keyF ty n κ=true→K.cmp ty m κ=true
 | n,m,.bool,_,_=>by cases m<;>rfl
 | n,m,.int _,_,_=>by cases m<;>rfl
 | n,m,.str,_,_=>by cases m<;>rfl
 | n,m,.iface b,_,h=>by cases n<;>simp[K.keyF] at h
 | 0,m,.struct fs,_,h=>by simp[K.keyF] at h
 | n+1,0,.struct fs,h,_=>by omega
 | n+1,m+1,.struct fs,hnm,h=>by
  simp only[K.keyF,K.cmp,List.all_eq_true] at h ⊢
  exact fun f hf=>keyF_cmp n m _ (by omega) (h f hf)
 | 0,m,.array k e,_,h=>by simp[K.keyF] at h
 | n+1,0,.array k e,h,_=>by omega
 | n+1,m+1,.array k e,hnm,h=>by
  simp only[K.keyF,K.cmp] at h ⊢
  exact keyF_cmp n m _ (by omega) h
 | n,m,.slice _,_,h=>by cases n<;>simp[K.keyF] at h
 | n,m,.map _ _,_,h=>by cases n<;>simp[K.keyF] at h
 | n,m,.ptr _,_,h=>by cases n<;>simp[K.keyF] at h
 | n,m,.func,_,h=>by cases n<;>simp[K.keyF] at h
 | n,m,.bad,_,h=>by cases n<;>simp[K.keyF] at h
theorem checkKey_fields (T:TyOk P ty) {M:Mem} {b:Bool} {n m:Nat}
  (ih:∀(d:D) (t:Nat) (x:Value) (w:World),Rep ty M d (ty t) x→K.keyF ty n (ty t)=true→(Instr.checkKey b m t x).run P w = .ok () w) (w:World) (X:Array Value) :
  ∀(fs:List Field) (ds:List D) (px cx:List Value),Reps ty M ds (fs.map fun f=>ty f.type) cx→X.toList=px++cx →
   (∀(j:Nat) (f:Field),fs[j]? = some f→f.offset=px.length+((fs.take j).map fun f=>P.cellsOf f.type).sum∧f.name ≠ "_" ∧ ty f.type≠.bad∧K.keyF ty n (ty f.type)=true) →
   (forIn (m:=Sem) fs PUnit.unit (fun f _=>do
    if f.name ≠ "_" then
     Instr.checkKey b m f.type (←part f.type X f.offset)
     pure (ForInStep.yield PUnit.unit)
    else pure (ForInStep.yield PUnit.unit))).run P w = .ok PUnit.unit w
 | [],ds,px,cx,_,_,_=>by simp[run_pure]
 | f::fs,ds,px,cx,ha,hX,hf=>by
  cases ds with
  | nil=>simp only[List.map_cons,Reps] at ha;simp at ha
  | cons a ds=>
  simp only[List.map_cons,Reps] at ha
  obtain⟨κ,κs',x,rx,e1,rfl,hx,ha⟩:=ha
  simp only[List.cons.injEq] at e1
  obtain⟨rfl,rfl⟩:=e1
  obtain⟨h0,hname,hbad,hkey⟩:=hf 0 f rfl
  simp at h0
  have hpx:(part f.type X f.offset).run P w = .ok x w:=by rw[h0];exact run_part_rep T hx (by rw[hX];simp;rfl) w
  have hsx:=Rep.size T.szOk _ _ _ hx
  rw[List.forIn_cons]
  simp only[run_bind,ne_eq,hname,not_false_eq_true,if_true,hpx,ih a f.type x w hx hkey,run_pure]
  refine checkKey_fields T ih w X fs ds (px++x.cells.toList) rx ha (by rw[hX];simp) (fun j f' hj=>?_)
  obtain⟨g1,g2,g3,g4⟩:=hf (j+1) f' (by simpa using hj)
  refine⟨?_,g2,g3,g4⟩
  rw[g1]
  simp[hsx,←T.szOk _ hbad,Nat.add_assoc]
theorem checkKey_elems (T:TyOk P ty) {M:Mem} {b:Bool} {n m e:Nat} (hkey:K.keyF ty n (ty e)=true)
  (ih:∀(d:D) (t:Nat) (x:Value) (w:World),Rep ty M d (ty t) x→K.keyF ty n (ty t)=true→(Instr.checkKey b m t x).run P w = .ok () w) (w:World) (X:Array Value) :
  ∀(k i:Nat) (ds:List D) (px cx:List Value),Reps ty M ds (List.replicate k (ty e)) cx→X.toList=px++cx→px.length=i*P.cellsOf e →
   (forIn (m:=Sem) (List.range' i k) PUnit.unit (fun j _=>do
    Instr.checkKey b m e (←part e X (j*(←sizeOf e)))
    pure (ForInStep.yield PUnit.unit))).run P w = .ok PUnit.unit w
 | 0,i,ds,px,cx,_,_,_=>by simp[run_pure]
 | k+1,i,ds,px,cx,ha,hX,hp=>by
  cases ds with
  | nil=>simp only[List.replicate_succ,Reps] at ha;simp at ha
  | cons a ds=>
  simp only[List.replicate_succ,Reps] at ha
  obtain⟨κ,κs',x,rx,e1,rfl,hx,ha⟩:=ha
  simp only[List.cons.injEq] at e1
  obtain⟨rfl,rfl⟩:=e1
  have hbad:ty e≠.bad:=fun h=>Rep.notBad (h▸hx)
  have hpx:(part e X (i*P.cellsOf e)).run P w = .ok x w:=by rw[←hp];exact run_part_rep T hx (by rw[hX];simp;rfl) w
  have hsx:=Rep.size T.szOk _ _ _ hx
  rw[List.range'_succ,List.forIn_cons]
  simp only[run_bind,run_sizeOf T hbad,hpx,ih a e x w hx hkey,run_pure]
  exact checkKey_elems T hkey ih w X k (i+1) ds (px++x.cells.toList) rx ha (by rw[hX];simp) (by simp[hp,hsx,←T.szOk _ hbad,Nat.add_mul])
theorem run_checkKeyF (T:TyOk P ty) {M:Mem} {b:Bool}:∀(n m:Nat),n<m→∀(d:D) (t:Nat) (x:Value) (w:World),Rep ty M d (ty t) x→K.keyF ty n (ty t)=true→(Instr.checkKey b m t x).run P w = .ok () w
 | _,0,h,_,_,_,_,_,_=>by omega
 | n,m+1,hnm,d,t,x,w,hx,hk=>by
  have ht:ty t≠.bad:=fun h=>Rep.notBad (h▸hx)
  have hu:=under_of T ht
  cases hκ:ty t with
  | bool=>rw[hκ] at hu;simp only[Instr.checkKey,run_bind,run_underlying T hu,run_pure]
  | int k=>rw[hκ] at hu;simp only[Instr.checkKey,run_bind,run_underlying T hu,run_pure]
  | str=>rw[hκ] at hu;simp only[Instr.checkKey,run_bind,run_underlying T hu,run_pure]
  | struct fs=>
   rw[hκ] at hu hx hk
   cases n with
   | zero=>simp[K.keyF] at hk
   | succ n=>
   obtain⟨ds,cx,rfl,rfl,hx2⟩:=Rep.isAgg hx rfl
   obtain⟨fields,hu,hfs,hfield⟩:=hu
   have hmap:fs.map ty=fields.toList.map fun f=>ty f.type:=by rw[←hfs];simp
   replace hx2:Reps ty M ds (fs.map ty) cx.toList:=hx2
   rw[hmap] at hx2
   simp only[K.keyF,List.all_eq_true] at hk
   have:=checkKey_fields T (b:=b) (n:=n) (m:=m) (fun d t x w h1 h2=>run_checkKeyF T n m (by omega) d t x w h1 h2) w cx fields.toList ds [] cx.toList hx2 rfl (by
    intro j f hj
    obtain⟨g1,g2,g3,g4⟩:=hfield j f (by simpa using hj)
    refine⟨?_,g3,g4,hk _ ?_⟩
    ·rw[g1];simp[kOff,←hfs,List.map_take,Function.comp_def]
    ·rw[←hfs];exact List.mem_map_of_mem (List.mem_of_getElem? hj))
   simp only[Instr.checkKey,run_bind,run_underlying T hu]
   simp at this ⊢
   rw[this]
  | array k e=>
   rw[hκ] at hu hx hk
   cases n with
   | zero=>simp[K.keyF] at hk
   | succ n=>
   obtain⟨ds,cx,rfl,rfl,hx2⟩:=Rep.isAgg hx rfl
   obtain⟨hu,_,hne⟩:=hu
   replace hx2:Reps ty M ds (List.replicate k (ty e)) cx.toList:=hx2
   simp only[K.keyF] at hk
   have:=checkKey_elems T (b:=b) (n:=n) (m:=m) hk (fun d t x w h1 h2=>run_checkKeyF T n m (by omega) d t x w h1 h2) w cx k 0 ds [] cx.toList hx2 rfl (by simp)
   simp only[Instr.checkKey,run_bind,run_underlying T hu]
   simp at this ⊢
   rw[this]
  | slice _=>rw[hκ] at hk;cases n<;>simp[K.keyF] at hk
  | map _ _=>rw[hκ] at hk;cases n<;>simp[K.keyF] at hk
  | iface _=>rw[hκ] at hk;cases n<;>simp[K.keyF] at hk
  | ptr _=>rw[hκ] at hk;cases n<;>simp[K.keyF] at hk
  | func=>rw[hκ] at hk;cases n<;>simp[K.keyF] at hk
  | bad=>rw[hκ] at hk;cases n<;>simp[K.keyF] at hk
mutual
theorem eqv_val {M M':Mem}:∀(x y:D) (n d:Nat) (κ:K) (u v:Value),K.keyF ty n κ=true→Rep ty M x κ u→Rep ty M' y κ v→D.eqv ty d x y κ=some true→u=v
 | .bool a,y,n,d,κ,u,v,hk,hx,hy,he=>by
  simp only[Rep] at hx
  obtain⟨rfl,rfl⟩:=hx
  cases d<;>cases y<;>simp[D.eqv] at he
  subst he;simp only[Rep] at hy;exact hy.2.symm
 | .int k a,y,n,d,κ,u,v,hk,hx,hy,he=>by
  simp only[Rep] at hx
  obtain⟨rfl,rfl⟩:=hx
  cases d<;>cases y<;>simp[D.eqv] at he
  subst he;simp only[Rep,K.int.injEq] at hy;obtain⟨rfl,rfl⟩:=hy;rfl
 | .str a,y,n,d,κ,u,v,hk,hx,hy,he=>by
  simp only[Rep] at hx
  obtain⟨rfl,rfl⟩:=hx
  cases d<;>cases y<;>simp[D.eqv] at he
  have he:=ba_eq he
  subst he;simp only[Rep] at hy;exact hy.2.symm
 | .agg ds,y,n,d,κ,u,v,hk,hx,hy,he=>by
  simp only[Rep] at hx
  obtain⟨hag,cs,rfl,hx⟩:=hx
  obtain⟨ds',cs',rfl,rfl,hy2⟩:=Rep.isAgg hy hag
  have key:∀κs:List K,κ.kids ty=κs→(∀κ'∈κs,∃n',K.keyF ty n' κ'=true)→(∃d',eqvs (D.eqv ty d') ds ds' κs=some true)→Value.agg cs=Value.agg cs':=by
   rintro κs rfl hks ⟨d',hd⟩
   have:=eqv_vals ds ds' d' _ _ _ hks hx hy2 hd
   congr 1
   exact Array.toList_inj.1 this
  cases d with
  | zero=>simp[D.eqv] at he
  | succ d=>
  cases κ with
  | struct fs=>
   cases n with
   | zero=>simp[K.keyF] at hk
   | succ n=>
   simp only[K.keyF,List.all_eq_true] at hk
   refine key _ rfl (fun κ' h'=>?_) ⟨d,by simpa[D.eqv,K.kids] using he⟩
   simp only[K.kids,List.mem_map] at h'
   obtain⟨f,hf,rfl⟩:=h'
   exact⟨n,hk f hf⟩
  | array k e=>
   cases n with
   | zero=>simp[K.keyF] at hk
   | succ n=>
   simp only[K.keyF] at hk
   refine key _ rfl (fun κ' h'=>?_) ⟨d,by simpa[D.eqv,K.kids] using he⟩
   simp only[K.kids] at h'
   rw[List.eq_of_mem_replicate h']
   exact⟨n,hk⟩
  | _=>simp[K.isAgg] at hag
 | .slice nn ds,y,n,d,κ,u,v,hk,hx,hy,he=>by
  simp only[Rep] at hx
  obtain⟨e,_,_,rfl,_⟩:=hx
  cases n<;>simp[K.keyF] at hk
 | .iface t z,y,n,d,κ,u,v,hk,hx,hy,he=>by
  simp only[Rep] at hx
  obtain⟨⟨m,rfl⟩,_⟩:=hx
  cases n<;>simp[K.keyF] at hk
 | .nilIface,y,n,d,κ,u,v,hk,hx,hy,he=>by
  simp only[Rep] at hx
  obtain⟨⟨m,rfl⟩,_⟩:=hx
  cases n<;>simp[K.keyF] at hk
 | .fn f,y,n,d,κ,u,v,hk,hx,hy,he=>by
  simp only[Rep] at hx
  obtain⟨rfl,_⟩:=hx
  cases n<;>simp[K.keyF] at hk
 | .nilFunc,y,n,d,κ,u,v,hk,hx,hy,he=>by
  simp only[Rep] at hx
  obtain⟨rfl,_⟩:=hx
  cases n<;>simp[K.keyF] at hk
 | .nilPtr,y,n,d,κ,u,v,hk,hx,hy,he=>by
  simp only[Rep] at hx
  obtain⟨⟨e,rfl⟩,_⟩:=hx
  cases n<;>simp[K.keyF] at hk
 | .nilMap,y,n,d,κ,u,v,hk,hx,hy,he=>by
  simp only[Rep] at hx
  obtain⟨⟨a,e,rfl⟩,_⟩:=hx
  cases n<;>simp[K.keyF] at hk
 | .tup _,y,n,d,κ,u,v,hk,hx,hy,he=>by simp only[Rep] at hx
theorem eqv_vals {M M':Mem}:∀(xs ys:List D) (d:Nat) (κs:List K) (us vs:List Value),(∀κ∈κs,∃n,K.keyF ty n κ=true)→Reps ty M xs κs us→Reps ty M' ys κs vs→eqvs (D.eqv ty d) xs ys κs=some true→us=vs
 | [],ys,d,κs,us,vs,hk,hx,hy,he=>by
  simp only[Reps] at hx
  obtain⟨rfl,rfl⟩:=hx
  cases ys with
  | nil=>simp only[Reps] at hy;exact hy.2.symm
  | cons y ys=>simp[eqvs] at he
 | x::xs,ys,d,κs,us,vs,hk,hx,hy,he=>by
  simp only[Reps] at hx
  obtain⟨κ,κs',u,rest,rfl,rfl,hx1,hx2⟩:=hx
  cases ys with
  | nil=>simp[eqvs] at he
  | cons y ys=>
  simp only[Reps] at hy
  obtain⟨κ',κs'',v,rest',e1,rfl,hy1,hy2⟩:=hy
  simp only[List.cons.injEq] at e1
  obtain⟨rfl,rfl⟩:=e1
  simp only[eqvs] at he
  split at he
  ·rename_i h1
   obtain⟨n,hn⟩:=hk κ (by simp)
   rw[eqv_val x y n d κ u v hn hx1 hy1 h1,eqv_vals xs ys d κs' rest rest' (fun κ hκ=>hk κ (by simp[hκ])) hx2 hy2 he]
  ·simp at he
  ·simp at he
end
def plainV:Value→Bool | .bool _=>true | .int _ _=>true | .string _=>true | _=>false
theorem sameBits_plain {n:Nat} {v:Value} (h:plainV v=true):Instr.sameBits n v v=true:=by
 cases v<;>simp[plainV] at h
 ·cases n<;>simp[Instr.sameBits]
 ·cases n<;>simp[Instr.sameBits]
 ·cases n<;>(simp only[Instr.sameBits];exact ba_refl _)
mutual
theorem cells_plain {M:Mem}:∀(x:D) (n:Nat) (κ:K) (u:Value),K.keyF ty n κ=true→Rep ty M x κ u→∀c∈u.cells.toList,plainV c=true
 | .bool a,n,κ,u,hk,hx=>by simp only[Rep] at hx;obtain⟨rfl,rfl⟩:=hx;simp[Value.cells,plainV]
 | .int k a,n,κ,u,hk,hx=>by simp only[Rep] at hx;obtain⟨rfl,rfl⟩:=hx;simp[Value.cells,plainV]
 | .str a,n,κ,u,hk,hx=>by simp only[Rep] at hx;obtain⟨rfl,rfl⟩:=hx;simp[Value.cells,plainV]
 | .agg ds,n,κ,u,hk,hx=>by
  simp only[Rep] at hx
  obtain⟨hag,cs,rfl,hx⟩:=hx
  simp only[Value.cells]
  refine cells_plains ds _ _ (fun κ' h'=>?_) hx
  cases κ with
  | struct fs=>
   cases n with
   | zero=>simp[K.keyF] at hk
   | succ n=>
   simp only[K.keyF,List.all_eq_true] at hk
   simp only[K.kids,List.mem_map] at h'
   obtain⟨f,hf,rfl⟩:=h'
   exact⟨n,hk f hf⟩
  | array k e=>
   cases n with
   | zero=>simp[K.keyF] at hk
   | succ n=>
   simp only[K.keyF] at hk
   simp only[K.kids] at h'
   rw[List.eq_of_mem_replicate h']
   exact⟨n,hk⟩
  | _=>simp[K.isAgg] at hag
 | .slice nn ds,n,κ,u,hk,hx=>by
  simp only[Rep] at hx
  obtain⟨e,_,_,rfl,_⟩:=hx
  cases n<;>simp[K.keyF] at hk
 | .iface t z,n,κ,u,hk,hx=>by
  simp only[Rep] at hx
  obtain⟨⟨m,rfl⟩,_⟩:=hx
  cases n<;>simp[K.keyF] at hk
 | .nilIface,n,κ,u,hk,hx=>by
  simp only[Rep] at hx
  obtain⟨⟨m,rfl⟩,_⟩:=hx
  cases n<;>simp[K.keyF] at hk
 | .fn f,n,κ,u,hk,hx=>by
  simp only[Rep] at hx
  obtain⟨rfl,_⟩:=hx
  cases n<;>simp[K.keyF] at hk
 | .nilFunc,n,κ,u,hk,hx=>by
  simp only[Rep] at hx
  obtain⟨rfl,_⟩:=hx
  cases n<;>simp[K.keyF] at hk
 | .nilPtr,n,κ,u,hk,hx=>by
  simp only[Rep] at hx
  obtain⟨⟨e,rfl⟩,_⟩:=hx
  cases n<;>simp[K.keyF] at hk
 | .nilMap,n,κ,u,hk,hx=>by
  simp only[Rep] at hx
  obtain⟨⟨a,e,rfl⟩,_⟩:=hx
  cases n<;>simp[K.keyF] at hk
 | .tup _,n,κ,u,hk,hx=>by simp only[Rep] at hx
theorem cells_plains {M:Mem}:∀(xs:List D) (κs:List K) (us:List Value),(∀κ∈κs,∃n,K.keyF ty n κ=true)→Reps ty M xs κs us→∀c∈us,plainV c=true
 | [],κs,us,hk,hx=>by simp only[Reps] at hx;obtain⟨rfl,rfl⟩:=hx;simp
 | x::xs,κs,us,hk,hx=>by
  simp only[Reps] at hx
  obtain⟨κ,κs',u,rest,rfl,rfl,hx1,hx2⟩:=hx
  obtain⟨n,hn⟩:=hk κ (by simp)
  intro c hc
  rcases List.mem_append.1 hc with hc | hc
  ·exact cells_plain x n κ u hn hx1 c hc
  ·exact cells_plains xs κs' rest (fun κ hκ=>hk κ (by simp[hκ])) hx2 c hc
end
theorem sameBits_key {M:Mem} {x:D} {n:Nat} {κ:K} {u:Value} (hk:K.keyF ty n κ=true) (hx:Rep ty M x κ u):Instr.sameBits 10000 u u=true:=by
 have hc:=cells_plain x n κ u hk hx
 cases x with
 | agg ds=>
  simp only[Rep] at hx
  obtain⟨_,cs,rfl,_⟩:=hx
  simp only[Value.cells] at hc
  rw[show (10000:Nat)=9999+1 from rfl,Instr.sameBits]
  simp only[beq_self_eq_true,Bool.true_and,List.all_eq_true]
  rintro⟨a,b⟩ hab
  have:a=b∧a∈cs.toList:=by
   obtain⟨i,hi,he⟩:=List.mem_iff_getElem.1 hab
   simp at he
   obtain⟨rfl,rfl⟩:=he
   exact⟨rfl,by simp⟩
  obtain⟨rfl,hm⟩:=this
  exact sameBits_plain (hc a hm)
 | bool b=>simp only[Rep] at hx;obtain⟨_,rfl⟩:=hx;exact sameBits_plain rfl
 | int k b=>simp only[Rep] at hx;obtain⟨_,rfl⟩:=hx;exact sameBits_plain rfl
 | str b=>simp only[Rep] at hx;obtain⟨_,rfl⟩:=hx;exact sameBits_plain rfl
 | slice nn ds=>simp only[Rep] at hx;obtain⟨e,_,_,rfl,_⟩:=hx;cases n<;>simp[K.keyF] at hk
 | iface t z=>simp only[Rep] at hx;obtain⟨⟨m,rfl⟩,_⟩:=hx;cases n<;>simp[K.keyF] at hk
 | nilIface=>simp only[Rep] at hx;obtain⟨⟨m,rfl⟩,_⟩:=hx;cases n<;>simp[K.keyF] at hk
 | fn f=>simp only[Rep] at hx;obtain⟨rfl,_⟩:=hx;cases n<;>simp[K.keyF] at hk
 | nilFunc=>simp only[Rep] at hx;obtain⟨rfl,_⟩:=hx;cases n<;>simp[K.keyF] at hk
 | nilPtr=>simp only[Rep] at hx;obtain⟨⟨e,rfl⟩,_⟩:=hx;cases n<;>simp[K.keyF] at hk
 | nilMap=>simp only[Rep] at hx;obtain⟨⟨a,e,rfl⟩,_⟩:=hx;cases n<;>simp[K.keyF] at hk
 | tup _=>simp only[Rep] at hx
def PlaceU (ty:Nat→K) (κ:K) (x:D) (es:List (D×D)):Option Nat→Prop
 | none=>∀e∈es,D.eqv ty eqDepth x e.1 κ=some false
 | some j=>∃e,es[j]? = some e∧D.eqv ty eqDepth x e.1 κ=some true∧∀j' e',j'<j→es[j']? = some e'→D.eqv ty eqDepth x e'.1 κ=some false
theorem assoc_place {κ:K} {x:D}:∀{es:List (D×D)} {i:Nat} {q:Option Nat},assoc ty κ x es i=some q→∃q',q=q'.map (·+i)∧PlaceU ty κ x es q'
 | [],i,q,h=>by simp only[assoc,Option.some.injEq] at h;subst h;exact⟨none,rfl,by simp[PlaceU]⟩
 | (a,b)::es,i,q,h=>by
  simp only[assoc] at h
  split at h
  ·rename_i he
   simp only[Option.some.injEq] at h
   subst h
   exact⟨some 0,by simp,(a,b),by simp,he,by simp⟩
  ·rename_i he
   obtain⟨q',rfl,hp⟩:=assoc_place h
   refine⟨q'.map (·+1),by cases q'<;>simp<;>omega,?_⟩
   cases q' with
   | none=>simpa[PlaceU,he] using hp
   | some j=>
    obtain⟨e,h1,h2,h3⟩:=hp
    refine⟨e,by simpa using h1,h2,fun j' e' hj hj'=>?_⟩
    cases j' with
    | zero=>simp at hj';subst hj';exact he
    | succ j'=>exact h3 j' e' (by simp at hj;omega) (by simpa using hj')
  ·simp at h
theorem equal_key (T:TyOk P ty) {M:Mem} {t:Nat} {n:Nat} {x y:D} {u v:Value} {r:Bool} (hk:K.keyF ty n (ty t)=true) (hn:n≤20) (hx:Rep ty M x (ty t) u) (hy:Rep ty M y (ty t) v) (he:D.eqv ty eqDepth x y (ty t)=some r) (w:World) :
  (Op.equal t u v).run P w = .ok r w:=
 equalIn_ok T eqDepth _ (by decide) x y t u v r w hx hy (keyF_cmp n 20 _ hn hk) he
def ansU (ms:List MapEntry) (i:Nat):Option Nat→Option (Nat×Value)
 | none=>none
 | some j=>match ms[j]? with | some m=>some (i+j,m.val) | none=>none
theorem asking_ok (T:TyOk P ty) {M:Mem} {t:Nat} {κe:K} {n:Nat} {x:D} {u:Value} (hk:K.keyF ty n (ty t)=true) (hn:n≤20) (hx:Rep ty M x (ty t) u) (w:World) :
  ∀{b:Nat} {es:List (D×D)} {ms:List MapEntry} (i:Nat) (q:Option Nat),Entries ty M (ty t) κe b es ms→PlaceU ty (ty t) x es q→(Instr.findAsking t u ms i).run P w = .ok (ansU ms i q) w
 | b,[],ms,i,q,h,hq=>by
  simp only[Entries] at h;subst h
  cases q with
  | none=>rfl
  | some j=>obtain⟨e,he,_⟩:=hq;simp at he
 | b,e::es,ms,i,q,h,hq=>by
  simp only[Entries] at h
  obtain⟨m,rest,rfl,g1,g2,g3,g4⟩:=h
  cases q with
  | none=>
   have he:D.eqv ty eqDepth x e.1 (ty t)=some false:=hq e (by simp)
   have:=equal_key T hk hn hx g1 he w
   simp only[Instr.findAsking,run_bind,this,Bool.false_eq_true,if_false]
   exact asking_ok T hk hn hx w (i+1) none g4 (fun e' h'=>hq e' (by simp[h']))
  | some j=>
   obtain⟨e',he',hke,hlt⟩:=hq
   cases j with
   | zero=>
    simp only[List.getElem?_cons_zero,Option.some.injEq] at he'
    subst he'
    have:=equal_key T hk hn hx g1 hke w
    simp only[Instr.findAsking,run_bind,this,if_true,run_pure,ansU,List.getElem?_cons_zero,Nat.add_zero]
   | succ j=>
    have he:D.eqv ty eqDepth x e.1 (ty t)=some false:=hlt 0 e (by omega) (by simp)
    have:=equal_key T hk hn hx g1 he w
    simp only[Instr.findAsking,run_bind,this,Bool.false_eq_true,if_false]
    rw[asking_ok T hk hn hx w (i+1) (some j) g4 ⟨e',by simpa using he',hke,fun j' e'' hj h''=>hlt (j'+1) e'' (by omega) (by simpa using h'')⟩]
    simp only[ansU,List.getElem?_cons_succ]
    congr 1
    cases rest[j]? with
    | none=>rfl
    | some m=>simp;omega
def descK (κ:K) (d:TypeDesc):Prop:=match κ with | .int k=>d = .int k | .str=>d = .string | .bool=>d = .bool | _=>True
theorem sameNow_U {M M':Mem} {κ:K} {n:Nat} {x y:D} {u v:Value} {r:Bool} {d:TypeDesc} (hk:K.keyF ty n κ=true) (hd:descK κ d) (hx:Rep ty M x κ u) (hy:Rep ty M' y κ v)
  (he:D.eqv ty eqDepth x y κ=some r):Instr.sameNow d u v=none∨Instr.sameNow d u v=some r:=by
 cases κ with
 | bool=>
  simp only[descK] at hd;subst hd
  rw[rep_bool hx,rep_bool hy]
  right
  cases x<;>simp[Rep,K.isAgg] at hx
  cases y<;>simp[Rep,K.isAgg] at hy
  simpa[Instr.sameNow,eqDepth,D.eqv,D.b] using he
 | int k=>
  simp only[descK] at hd;subst hd
  rw[rep_int hx,rep_int hy]
  right
  cases x<;>simp[Rep,K.isAgg] at hx
  cases y<;>simp[Rep,K.isAgg] at hy
  simpa[Instr.sameNow,eqDepth,D.eqv,D.i] using he
 | str=>
  simp only[descK] at hd;subst hd
  rw[rep_str hx,rep_str hy]
  right
  cases x<;>simp[Rep,K.isAgg] at hx
  cases y<;>simp[Rep,K.isAgg] at hy
  simpa[Instr.sameNow,eqDepth,D.eqv,D.s] using he
 | struct fs=>
  obtain⟨ds,cs,_,rfl,_⟩:=Rep.isAgg hx rfl
  left;cases d<;>rfl
 | array m e=>
  obtain⟨ds,cs,_,rfl,_⟩:=Rep.isAgg hx rfl
  left;cases d<;>rfl
 | slice _=>cases n<;>simp[K.keyF] at hk
 | map _ _=>cases n<;>simp[K.keyF] at hk
 | iface _=>cases n<;>simp[K.keyF] at hk
 | ptr _=>cases n<;>simp[K.keyF] at hk
 | func=>cases n<;>simp[K.keyF] at hk
 | bad=>cases n<;>simp[K.keyF] at hk
theorem findNow_U {M M':Mem} {κ κe:K} {n:Nat} {x:D} {u:Value} {d:TypeDesc} (hk:K.keyF ty n κ=true) (hd:descK κ d) (hx:Rep ty M x κ u) :
  ∀{b:Nat} {es:List (D×D)} {ms:List MapEntry} (i:Nat) (q:Option Nat),Entries ty M' κ κe b es ms→PlaceU ty κ x es q→Instr.findNow d u ms i=none∨Instr.findNow d u ms i=some (ansU ms i q)
 | b,[],ms,i,q,h,hq=>by
  simp only[Entries] at h;subst h
  cases q with
  | none=>exact .inr rfl
  | some j=>obtain⟨e,he,_⟩:=hq;simp at he
 | b,e::es,ms,i,q,h,hq=>by
  simp only[Entries] at h
  obtain⟨m,rest,rfl,g1,g2,g3,g4⟩:=h
  simp only[Instr.findNow]
  cases q with
  | none=>
   rcases sameNow_U hk hd hx g1 (hq e (by simp)) with s | s
   ·rw[s];exact .inl rfl
   ·rw[s];exact findNow_U hk hd hx (i+1) none g4 (fun e' h'=>hq e' (by simp[h']))
  | some j=>
   obtain⟨e',he',hke,hlt⟩:=hq
   cases j with
   | zero=>
    simp only[List.getElem?_cons_zero,Option.some.injEq] at he'
    subst he'
    rcases sameNow_U hk hd hx g1 hke with s | s
    ·rw[s];exact .inl rfl
    ·rw[s];exact .inr (by simp[ansU])
   | succ j=>
    rcases sameNow_U hk hd hx g1 (hlt 0 e (by omega) (by simp)) with s | s
    ·rw[s];exact .inl rfl
    ·rw[s]
     rcases findNow_U hk hd hx (i+1) (some j) g4 ⟨e',by simpa using he',hke,fun j' e'' hj h''=>hlt (j'+1) e'' (by omega) (by simpa using h'')⟩ with s | s
     ·exact .inl s
     ·right
      simp only[s]
      simp only[ansU,List.getElem?_cons_succ]
      cases rest[j]? with
      | none=>rfl
      | some m=>simp;omega
def FindOk (P:Program) (t:Nat) (u:Value) (ms:List MapEntry) (w:World):Option Nat→Prop
 | none=>(Instr.findKey t u ms).run P w = .ok none w
 | some j=>∃m,ms[j]? = some m∧(Instr.findKey t u ms).run P w = .ok (some (j,m.val)) w∧m.key=u
theorem run_findKeyU (T:TyOk P ty) {M:Mem} {t:Nat} {κe:K} {n:Nat} {x:D} {u:Value} (hk:K.keyF ty n (ty t)=true) (hn:n≤20) (hx:Rep ty M x (ty t) u) {es:List (D×D)} {ms:List MapEntry} (he:Entries ty M (ty t) κe 0 es ms) {q:Option Nat} (hq:PlaceU ty (ty t) x es q) (w:World) :
  FindOk P t u ms w q:=by
 have hb:ty t≠.bad:=fun h=>Rep.notBad (h▸hx)
 have hu:=under_of T hb
 have hrun:(Instr.findKey t u ms).run P w = .ok (ansU ms 0 q) w:=by
  have go:∀d,P.underlying t=some d→descK (ty t) d→(Instr.findKey t u ms).run P w = .ok (ansU ms 0 q) w:=by
   intro d hd hm
   simp only[Instr.findKey,run_bind,run_underlying T hd]
   rcases findNow_U hk hm hx 0 q he hq with s | s
   ·rw[s];exact asking_ok T hk hn hx w 0 q he hq
   ·rw[s];rfl
  cases hκ:ty t with
  | bool=>rw[hκ] at hu;exact go _ hu (by rw[hκ];rfl)
  | int k=>rw[hκ] at hu;exact go _ hu (by rw[hκ];rfl)
  | str=>rw[hκ] at hu;exact go _ hu (by rw[hκ];rfl)
  | struct fs=>rw[hκ] at hu;obtain⟨fields,hu,_⟩:=hu;exact go _ hu (by rw[hκ];trivial)
  | array m e=>rw[hκ] at hu;exact go _ hu.1 (by rw[hκ];trivial)
  | slice _=>rw[hκ] at hk;cases n<;>simp[K.keyF] at hk
  | map _ _=>rw[hκ] at hk;cases n<;>simp[K.keyF] at hk
  | iface _=>rw[hκ] at hk;cases n<;>simp[K.keyF] at hk
  | ptr _=>rw[hκ] at hk;cases n<;>simp[K.keyF] at hk
  | func=>rw[hκ] at hk;cases n<;>simp[K.keyF] at hk
  | bad=>exact absurd hκ hb
 cases q with
 | none=>exact hrun
 | some j=>
  obtain⟨e,h1,h2,_⟩:=hq
  obtain⟨m,k1,k2,k3,k4⟩:=he.get h1
  refine⟨m,k1,?_,?_⟩
  ·rw[hrun];simp[ansU,k1]
  ·exact(eqv_val x e.1 n eqDepth (ty t) u m.key hk hx k2 h2).symm
variable {R:Type} {E:Env} {hint:Hint} {μ:List Loc} {H:List AObj} {w:World} {regs:List V} {a:Act} {o:Oper} {k:V→Eff→Option R} {r:R} {next:Act→World→Prop} {Q:Exit→Act→World→Prop}
variable (T:TyOk P E.ty) (h:HOk E.ty P.cellsOf E.rnd X B0 w0 μ H w) (hr:Regs P E.ty (M_ X μ H w) μ regs a.tmps) (hn:Nexts P E.ty E.rnd X B0 w0 μ H w a o.dst k r next)
include T h hr hn
theorem op_insertU {t:Nat} {m key v:Operand} (ho:o.op = .insert t m key v∨o.op = .mapUpdate t m key v) (he:evInsertU E H regs t m key v k=some r):o.wp P a w next Q:=by
 unfold evInsertU at he
 split at he
 ·rename_i ka e b hk hm
  split at he
  ·rename_i ka' e' es hH
   split at he
   ·rename_i κ x κ' y hx hy
    split at he
    ·rename_i hc
     obtain⟨rfl,rfl,rfl,rfl,hkk⟩:=hc
     split at he
     case h_2=>simp at he
     rename_i q0 hq0
     obtain⟨q,hqq,hpl⟩:=assoc_place hq0
     have hqe:q=q0:=by rw[hqq];cases q<;>rfl
     clear hqq
     subst hqe
     clear hq0
     have hq:=he
     have hv:=val_ok hr (E.ty t) m
     rw[hm] at hv
     replace hv:=hv.resolve_left (by simp)
     obtain⟨κ0,hv⟩:=hv
     simp only[RV] at hv
     obtain⟨l,a1,e1,hμ,hl,_,hmv⟩:=hv
     have hobj:=h.obj b l _ hμ hH
     simp only[ObjOk] at hobj
     obtain⟨_,hka,hke,ms,hblk,hes⟩:=hobj
     have hxr:=val_ok hr (E.ty ka') key
     rw[hx] at hxr
     replace hxr:=hxr.resolve_left (by simp)
     obtain⟨κ1,hxr⟩:=hxr
     simp only[RV] at hxr
     obtain⟨rfl,hxr⟩:=hxr
     have hyr:=val_ok hr (E.ty e') v
     rw[hy] at hyr
     replace hyr:=hyr.resolve_left (by simp)
     obtain⟨κ2,hyr⟩:=hyr
     simp only[RV] at hyr
     obtain⟨rfl,hyr⟩:=hyr
     obtain⟨hu,_,_⟩:=under_map T hk
     have hmsl:=hes.length
     have hlt:=lt_of_block hblk
     have hfind:FindOk P _ _ _ _ _:=run_findKeyU T hkk (by omega) hxr hes hpl w
     have hrun:∃ms' c',(Instr.mapUpdate t (.map (some l.blk)) (a.eval key) (a.eval v)).run P w = .ok () (putBlk w l.blk (.map ms' c'))∧c'=(entrySet es x y q).length∧Entries E.ty (memOf w (X++owned μ H)) (E.ty ka') (E.ty e') 0 (entrySet es x y q) ms'.toList:=by
      cases q with
      | none=>
       simp only[FindOk] at hfind
       refine⟨ms.push { key:=a.eval key,val:=a.eval v,born:=es.length },es.length+1,?_,by simp[entrySet],?_⟩
       ·simp only[Instr.mapUpdate,run_bind,run_underlying T hu,getObj,setObj,Sem.run,hblk,run_checkKeyF T 12 10000 (by omega) _ _ _ _ hxr hkk,hfind,run_pure,putBlk]
       ·simp only[entrySet,Array.toList_push]
        exact Entries.append hxr hyr hes (by simp)
      | some j=>
       obtain⟨mm,g1,g2,g3⟩:=hfind
       obtain⟨en,hen,_,_⟩:=hpl
       have hj:j<es.length:=(List.getElem?_eq_some_iff.1 hen).1
       have hmj:ms[j]? = some mm:=by rw[←Array.getElem?_toList];exact g1
       refine⟨ms.modify j fun e=>{ e with key:=a.eval key,val:=a.eval v },es.length,?_,by simp[entrySet],?_⟩
       ·simp only[Instr.mapUpdate,run_bind,run_underlying T hu,getObj,setObj,Sem.run,hblk,run_checkKeyF T 12 10000 (by omega) _ _ _ _ hxr hkk,g2,run_pure,putBlk]
        have hstay:(Instr.keyThatStays (((ms[j]?).map (·.key)).getD (a.eval key)) (a.eval key)).run P w = .ok (a.eval key) w:=by
         rw[hmj]
         simp only[Option.map_some,Option.getD_some,g3,Instr.keyThatStays]
         have hsame:Instr.sameBits 10000 (a.eval key) (a.eval key)=true:=sameBits_key hkk hxr
         rw[if_pos hsame]
         exact run_pure ..
        simp only[hstay,run_bind,run_pure,getObj,setObj,Sem.run,hblk]
       ·simp only[entrySet,Array.toList_modify]
        exact Entries.set hes (fun m0 hm0=>⟨hxr,hyr,rfl⟩)
     obtain⟨ms',c',hr1,hc',hes'⟩:=hrun
     obtain⟨h1,h2⟩:=HOk.put h (o':=.map ka' e' (entrySet es x y q)) (obj:=.map ms' c') hμ hH rfl rfl (by
      simp only[ObjOk]
      exact⟨by rw[hl];first | rfl | (have:=h.obj b l _ hμ hH;simp only[ObjOk] at this;rw[←hl];exact this.1),hka,hke,ms',by rw[putBlk_heap,if_pos ⟨rfl,hlt⟩,hc'],hes'⟩)
     refine wp_skip' (w':=putBlk w l.blk (.map ms' c')) ?_ (hn _ _ _ _ _ hq (.inl rfl) h1 h2)
     rcases ho with ho | ho
     ·simp only[execOp,ho,hmv,run_bind,hr1,run_pure]
     ·simp only[execOp,ho,hmv,run_bind,hr1,run_pure]
    ·simp at he
   ·simp at he
  ·simp at he
 ·simp at he
theorem op_mapEntry {t:Nat} {m key:Operand} (ho:o.op = .mapEntry t m key) (he:evEntryU E H regs t m key k=some r):o.wp P a w next Q:=by
 unfold evEntryU at he
 split at he
 ·rename_i ka e b hk hm
  split at he
  ·rename_i ka' e' es hH
   split at he
   ·rename_i κ x hx
    split at he
    ·rename_i hc
     obtain⟨rfl,rfl,rfl,hkk⟩:=hc
     rw[Bool.cond_eq_ite] at he
     split at he
     case isFalse=>simp at he
     split at he
     case h_2=>simp at he
     rename_i q0 hq0
     obtain⟨q,hqq,hpl⟩:=assoc_place hq0
     have hqe:q=q0:=by rw[hqq];cases q<;>rfl
     clear hqq
     subst hqe
     clear hq0
     have hv:=val_ok hr (E.ty t) m
     rw[hm] at hv
     replace hv:=hv.resolve_left (by simp)
     obtain⟨κ0,hv⟩:=hv
     simp only[RV] at hv
     obtain⟨l,a1,e1,hμ,hl,_,hmv⟩:=hv
     have hobj:=h.obj b l _ hμ hH
     simp only[ObjOk] at hobj
     obtain⟨_,hka,hke,ms,hblk,hes⟩:=hobj
     have hxr:=val_ok hr (E.ty ka') key
     rw[hx] at hxr
     replace hxr:=hxr.resolve_left (by simp)
     obtain⟨κ1,hxr⟩:=hxr
     simp only[RV] at hxr
     obtain⟨rfl,hxr⟩:=hxr
     obtain⟨hu,_,_⟩:=under_map T hk
     have hmsl:=hes.length
     have hlt:=lt_of_block hblk
     have hfind:FindOk P _ _ _ _ _:=run_findKeyU T hkk (by omega) hxr hes hpl w
     obtain⟨z,hz,hzr⟩:=run_zeroValue T hke w
     have hrun:∃ms' c' y,(Instr.mapEntry t (.map (some l.blk)) (a.eval key)).run P w = .ok (.tuple #[y,.int .i64 (entryAt es q:Nat)]) (putBlk w l.blk (.map ms' c'))∧c'=(entrySet es x (entryVal es (zero E.ty (E.ty e')) q) q).length ∧
       Entries E.ty (memOf w (X++owned μ H)) (E.ty ka') (E.ty e') 0 (entrySet es x (entryVal es (zero E.ty (E.ty e')) q) q) ms'.toList∧Rep E.ty (memOf w (X++owned μ H)) (entryVal es (zero E.ty (E.ty e')) q) (E.ty e') y:=by
      cases q with
      | none=>
       simp only[FindOk] at hfind
       refine⟨ms.push { key:=a.eval key,val:=z,born:=es.length },es.length+1,z,?_,by simp[entrySet],?_,hzr _⟩
       ·simp only[Instr.mapEntry,run_bind,run_underlying T hu,getObj,setObj,Sem.run,hblk,run_checkKeyF T 12 10000 (by omega) _ _ _ _ hxr hkk,hfind,hz,run_pure,putBlk,entryAt,goInt]
       ·simp only[entrySet,Array.toList_push]
        exact Entries.append hxr (hzr _) hes (by simp)
      | some j=>
       obtain⟨mm,g1,g2,g3⟩:=hfind
       obtain⟨en,hen,_,_⟩:=hpl
       obtain⟨m',k1,k2,k3,k4⟩:=hes.get hen
       rw[g1] at k1
       simp only[Option.some.injEq] at k1
       subst k1
       have hj:j<es.length:=(List.getElem?_eq_some_iff.1 hen).1
       have hmj:ms[j]? = some mm:=by rw[←Array.getElem?_toList];exact g1
       have hev:entryVal es (zero E.ty (E.ty e')) (some j)=en.2:=by simp only[entryVal,hen]
       refine⟨ms.modify j fun e=>{ e with key:=a.eval key },es.length,mm.val,?_,by simp[entrySet],?_,by rw[hev];exact k3⟩
       ·simp only[Instr.mapEntry,run_bind,run_underlying T hu,getObj,setObj,Sem.run,hblk,run_checkKeyF T 12 10000 (by omega) _ _ _ _ hxr hkk,g2,run_pure,putBlk]
        have hstay:(Instr.keyThatStays (((ms[j]?).map (·.key)).getD (a.eval key)) (a.eval key)).run P w = .ok (a.eval key) w:=by
         rw[hmj]
         simp only[Option.map_some,Option.getD_some,g3,Instr.keyThatStays]
         have hsame:Instr.sameBits 10000 (a.eval key) (a.eval key)=true:=sameBits_key hkk hxr
         rw[if_pos hsame]
         exact run_pure ..
        simp only[hstay,run_bind,run_pure,getObj,setObj,Sem.run,hblk]
        rw[hmj]
        simp only[Option.map_some,Option.getD_some,k4,entryAt,goInt,Nat.zero_add]
       ·rw[hev]
        simp only[entrySet,Array.toList_modify]
        exact Entries.set hes (fun m0 hm0=>by rw[g1] at hm0;obtain rfl:=Option.some.inj hm0;exact⟨hxr,k3,rfl⟩)
     obtain⟨ms',c',y,hr1,hc',hes',hyr⟩:=hrun
     obtain⟨h1,h2⟩:=HOk.put h (o':=.map ka' e' (entrySet es x (entryVal es (zero E.ty (E.ty e')) q) q)) (obj:=.map ms' c') hμ hH rfl rfl (by
      simp only[ObjOk]
      exact⟨by rw[hl];first | rfl | (have:=h.obj b l _ hμ hH;simp only[ObjOk] at this;rw[←hl];exact this.1),hka,hke,ms',by rw[putBlk_heap,if_pos ⟨rfl,hlt⟩,hc'],hes'⟩)
     refine wp_value (x:=.tuple #[y,.int .i64 (entryAt es q:Nat)]) (w':=putBlk w l.blk (.map ms' c')) ?_ (hn _ _ _ _ _ he (.inr ⟨.bad,?_⟩) h1 h2)
     ·simp only[execOp,ho,hmv,run_bind,hr1,run_pure]
     ·simp only[RV]
      refine⟨trivial,_,rfl,?_⟩
      simp only[RVt]
      exact⟨y,_,rfl,.inr ⟨E.ty e',by simp only[RV];exact⟨trivial,Rep.mono _ h2.mem _ _ _ hyr⟩⟩,.int .i64 (entryAt es q:Nat),[],rfl,.inr ⟨.int .i64,by simp[RV,Rep]⟩,rfl⟩
    ·simp at he
   ·simp at he
  ·simp at he
 ·simp at he
theorem op_entryStore {t:Nat} {m i v:Operand} (ho:o.op = .entryStore t m i v) (he:evEntryStore E H regs t m i v k=some r):o.wp P a w next Q:=by
 unfold evEntryStore at he
 split at he
 ·rename_i ka e b hk hm
  split at he
  ·rename_i ka' e' es hH
   split at he
   ·rename_i n κ' y hi hy
    split at he
    ·rename_i hc
     obtain⟨rfl,rfl,rfl⟩:=hc
     rw[Bool.cond_eq_ite] at he
     split at he
     case isFalse=>simp at he
     rename_i hb
     simp only[Bool.and_eq_true,decide_eq_true_eq] at hb
     obtain⟨hb0,hb1⟩:=hb
     obtain⟨j,rfl⟩:∃j:Nat,n=(j:Int):=⟨n.toNat,by omega⟩
     simp only[Int.toNat_natCast] at he
     have hj:j<es.length:=by omega
     have hv:=val_ok hr (E.ty t) m
     rw[hm] at hv
     replace hv:=hv.resolve_left (by simp)
     obtain⟨κ0,hv⟩:=hv
     simp only[RV] at hv
     obtain⟨l,a1,e1,hμ,hl,_,hmv⟩:=hv
     have hobj:=h.obj b l _ hμ hH
     simp only[ObjOk] at hobj
     obtain⟨_,hka,hke,ms,hblk,hes⟩:=hobj
     have hyr:=val_ok hr (E.ty e') v
     rw[hy] at hyr
     replace hyr:=hyr.resolve_left (by simp)
     obtain⟨κ2,hyr⟩:=hyr
     simp only[RV] at hyr
     obtain⟨rfl,hyr⟩:=hyr
     have hmsl:=hes.length
     have hlt:=lt_of_block hblk
     obtain⟨kd,hiv⟩:=vInt_ok (val_ok hr (.int .i64) i) hi
     obtain⟨mm,k1,k2,k3,k4⟩:=hes.get (List.getElem?_eq_getElem hj)
     have hfind:ms.findIdx? (fun e=>(e.born:Int)==(j:Int))=some j:=by
      rw[Array.findIdx?_eq_some_iff_getElem]
      have hjm:j<ms.size:=by simpa using (show j<ms.toList.length by omega)
      have hget:∀(j':Nat) (h':j'<ms.size),ms[j'].born=j':=fun j' h'=>by
       obtain⟨m',g1,_,_,g4⟩:=hes.get (List.getElem?_eq_getElem (show j'<es.length by rw[←hmsl];simpa using h'))
       rw[Array.getElem?_toList,Array.getElem?_eq_getElem h'] at g1
       rw[Option.some.inj g1,g4];omega
      refine⟨hjm,by rw[hget j hjm];simp,fun j' hj'=>?_⟩
      rw[hget j' (by omega)];simp;omega
     have hes':Entries E.ty (memOf w (X++owned μ H)) (E.ty ka') (E.ty e') 0 (setVal es j y) (ms.modify j fun e=>{ e with val:=a.eval v }).toList:=by
      rw[Array.toList_modify]
      exact Entries.set hes (fun m0 hm0=>by rw[k1] at hm0;obtain rfl:=Option.some.inj hm0;exact⟨by simpa[List.getD_eq_getElem?_getD,List.getElem?_eq_getElem hj] using k2,hyr,rfl⟩)
     obtain⟨h1,h2⟩:=HOk.put h (o':=.map ka' e' (setVal es j y)) (obj:=.map (ms.modify j fun e=>{ e with val:=a.eval v }) es.length) hμ hH rfl rfl (by
      simp only[ObjOk]
      exact⟨by rw[hl];first | rfl | (have:=h.obj b l _ hμ hH;simp only[ObjOk] at this;rw[←hl];exact this.1),hka,hke,_,by rw[putBlk_heap,if_pos ⟨rfl,hlt⟩];simp[setVal],hes'⟩)
     refine wp_skip' (w':=putBlk w l.blk (.map (ms.modify j fun e=>{ e with val:=a.eval v }) es.length)) ?_ (hn _ _ _ _ _ he (.inl rfl) h1 h2)
     simp only[execOp,ho,hmv,Instr.entryStore,asInt,hiv,asIntOf,run_bind,run_pure,getObj,setObj,Sem.run,hblk,hfind,putBlk]
    ·simp at he
   ·simp at he
  ·simp at he
 ·simp at he
theorem op_lookupU {t:Nat} {m key:Operand} {ok:Bool} (ho:o.op = .lookup t m key ok) (he:evLookupU E H regs t m key ok k=some r):o.wp P a w next Q:=by
 unfold evLookupU at he
 split at he
 ·rename_i ka e b hk hm
  split at he
  ·rename_i ka' e' es hH
   split at he
   ·rename_i κ x hx
    split at he
    ·rename_i hc
     obtain⟨rfl,rfl,rfl,hkk⟩:=hc
     split at he
     case h_2=>simp at he
     rename_i q0 hq0
     obtain⟨q,hqq,hpl⟩:=assoc_place hq0
     have hqe:q=q0:=by rw[hqq];cases q<;>rfl
     clear hqq
     subst hqe
     clear hq0
     have hq:=he
     have hv:=val_ok hr (E.ty t) m
     rw[hm] at hv
     replace hv:=hv.resolve_left (by simp)
     obtain⟨κ0,hv⟩:=hv
     simp only[RV] at hv
     obtain⟨l,a1,e1,hμ,hl,_,hmv⟩:=hv
     have hobj:=h.obj b l _ hμ hH
     simp only[ObjOk] at hobj
     obtain⟨_,hka,hke,ms,hblk,hes⟩:=hobj
     have hxr:=val_ok hr (E.ty ka') key
     rw[hx] at hxr
     replace hxr:=hxr.resolve_left (by simp)
     obtain⟨κ1,hxr⟩:=hxr
     simp only[RV] at hxr
     obtain⟨rfl,hxr⟩:=hxr
     obtain⟨hu,_,_⟩:=under_map T hk
     have hfind:FindOk P _ _ _ _ _:=run_findKeyU T hkk (by omega) hxr hes hpl w
     obtain⟨z,hz,hzr⟩:=run_zeroValue T hke w
     have hrun:∃y,(Instr.lookup t (.map (some l.blk)) (a.eval key) ok).run P w = .ok (if ok=true then .tuple #[y,.bool q.isSome] else y) w∧Rep E.ty (M_ X μ H w) (entryVal es (zero E.ty (E.ty e')) q) (E.ty e') y:=by
      cases q with
      | none=>
       simp only[FindOk] at hfind
       refine⟨z,?_,hzr _⟩
       simp only[Instr.lookup,run_bind,run_underlying T hu,getObj,Sem.run,hblk,run_checkKeyF T 12 10000 (by omega) _ _ _ _ hxr hkk,hfind,hz,run_pure,Option.isSome_none]
      | some j=>
       obtain⟨mm,g1,g2,g3⟩:=hfind
       obtain⟨en,hen,_,_⟩:=hpl
       obtain⟨m',k1,k2,k3,k4⟩:=hes.get hen
       rw[g1] at k1
       simp only[Option.some.injEq] at k1
       subst k1
       refine⟨mm.val,?_,by simp only[entryVal,hen];exact k3⟩
       simp only[Instr.lookup,run_bind,run_underlying T hu,getObj,Sem.run,hblk,run_checkKeyF T 12 10000 (by omega) _ _ _ _ hxr hkk,g2,run_pure,Option.isSome_some]
     obtain⟨y,hr1,hyr⟩:=hrun
     cases ok with
     | true=>
      simp only[cond_true] at hq
      refine wp_value (x:=.tuple #[y,.bool q.isSome]) (w':=w) ?_ (hn.same h hq (.inr ⟨.bad,?_⟩))
      ·simp only[execOp,ho,hmv,run_bind,hr1,run_pure];rfl
      ·simp only[RV]
       refine⟨trivial,_,rfl,?_⟩
       simp only[RVt]
       refine⟨y,_,rfl,.inr ⟨E.ty e',by simp only[RV];exact⟨trivial,hyr⟩⟩,.bool q.isSome,[],rfl,.inr ⟨.bool,by simp[RV,Rep]⟩,rfl⟩
     | false=>
      simp only[cond_false] at hq
      refine wp_value (x:=y) (w':=w) ?_ (hn.same h hq (.inr ⟨E.ty e',by simp only[RV];exact⟨trivial,hyr⟩⟩))
      simp only[execOp,ho,hmv,run_bind,hr1,run_pure];rfl
    ·simp at he
   ·simp at he
  ·simp at he
 ·simp at he
end
end Go.AM
namespace Go.AM
open Go Go.RowKit
section
variable {P:Program} {ty:Nat→K}
def ResRep (ty:Nat→K) (M:Mem) (ts:List Nat) (r:D) (v:Value):Prop:=
 match ts with
 | [t]=>Rep ty M r (ty t) v
 | ts=>∃ds xs,r = .tup ds∧v = .tuple xs∧Each ty M ds (ts.map ty) xs.toList
def FreshRep (P:Program) (ty:Nat→K) (X:List Nat) (w w':World) (ts:List Nat) (r:D) (v:Value):Prop:=
 (∃t a e es blk ms,ts=[t]∧ty t = .map a e∧r = .slice true (es.map fun p:D×D=>.tup [p.1,p.2])∧v = .map (some blk)∧w.heap.size≤blk∧w'.heap[blk]? = some (.map ms es.length) ∧
  Entries ty (memOf w' (X++[blk])) (ty a) (ty e) 0 es ms.toList) ∨
 ∃t e nn ds,ts=[t]∧ty t = .slice e∧r = .slice nn ds ∧
  ((ds=[]∧∃a,v = .slice a 0 0∧a.isSome=nn) ∨
   (nn=true∧∃blk base cap cs et fz pre mid post,w.heap.size≤blk∧v = .slice (some ⟨blk,base,none⟩) ds.length cap∧w'.heap[blk]? = some (.cells cs et fz)∧cs.toList=pre++mid++post∧pre.length=base ∧
    Reps ty (memOf w' (X++[blk])) ds (List.replicate ds.length (ty e)) mid∧(ds.length≤cap∧cap≤maxInt)∧(cap-ds.length)*P.cellsOf e≤post.length∧(∀o,o<cs.size+slk (ty e)→¬(fz.1≤o∧o<fz.2))∧etRow ty et e cs.size))
def Contract (P:Program) (ty:Nat→K) (I:World→Prop) (f:Nat) (fn:Func) (c:Con):Prop:=
 ∀(X:List Nat) (w:World) (ds:List D) (xs:List Value) (r:D),I w→(∀b∈X,b<w.heap.size)→Each ty (memOf w X) ds (fn.params.toList.map ty) xs→c.run ds=some r →
  Calls P f xs.toArray w fun e w'=>∃v,e = .returned v∧Below w.heap.size w w' ∧
   (if c.plain=true then ∀M,ResRep ty M fn.resultTypes.toList r v else if c.fresh=true then FreshRep P ty X w w' fn.resultTypes.toList r v else ResRep ty (memOf w' X) fn.resultTypes.toList r v)
def ExtOk (P:Program) (ty:Nat→K) (I:World→Prop) (gl f:Nat) (x:Ext):Prop:=
 ∀(cd:Cd) (X:List Nat) (B0:Nat) (w0:World) (μ:List Loc) (H:List AObj) (w:World) (args:List V) (v:V) (H':List AObj) (xs:List Value),I w→gl≤B0→HOk ty P.cellsOf cd X B0 w0 μ H w→RVt ty P.cellsOf (M_ X μ H w) μ args xs →
  x args H=some (true,v,H')→Calls P f xs.toArray w fun e w'=>∃y μ',e = .returned y∧HOk ty P.cellsOf cd X B0 w0 μ' H' w'∧RR ty P.cellsOf (M_ X μ' H' w') μ' v y∧Fut X B0 μ.length μ H w μ' H' w'
def PrimOk (P:Program) (ty:Nat→K) (f:Nat) (p:List D→Option D):Prop:=
 ∀(fn:Func) (M:Mem) (ds:List D) (xs:List Value) (r:D) (w:World),P.funcs[f]? = some fn→Each ty M ds (fn.params.toList.map ty) xs→p ds=some r →
  ∃v,(callFunc f xs.toArray).run P w = .ok (.value v) w∧∀M',ResRep ty M' fn.resultTypes.toList r v
structure EnvOk (P:Program) (E:Env) (I:World→Prop) (gl:Nat):Prop where
 ty:TyOk P E.ty
 fn:∀f fn,E.fn f=some fn→P.funcs[f]? = some fn∧(fn.name == "runtime.NumGoroutine")=false
 con:∀f c fn,E.con f=some c→E.fn f=some fn→Contract P E.ty I f fn c
 keep:∀w w',Below gl w w'→I w→I w'
 mixed:P.follows .mixedOrders=true
 ext:∀f x,E.ext f=some x→ExtOk P E.ty I gl f x
 rounds:∀f fn,E.fn f=some fn→roundsOk fn=true
 prim:∀f p,E.prim f=some p→PrimOk P E.ty f p
 meth:∀(m:String) (p:Nat×Nat),p∈E.meth m→∀(y:Value) (w:World),(Go.method (P.types.size+Made.depth) p.1 y m).run P w = .ok (p.2,y) w
theorem resV_ok {M:Mem} {μ:List Loc} {ts:List Nat} {r:D} {v:Value} (h:ResRep ty M ts r v):RR ty P.cellsOf M μ (resV ty ts r) v:=by
 unfold ResRep at h
 unfold resV
 split at h
 ·rename_i t
  exact .inr ⟨ty t,by simp only[RV];exact⟨trivial,h⟩⟩
 ·rename_i hne
  split
  ·exact absurd rfl (hne _)
  ·obtain⟨ds,xs,rfl,rfl,hE⟩:=h
   exact .inr ⟨.bad,by simp only[RV];exact⟨trivial,ds,xs,rfl,rfl,hE⟩⟩
variable {cd:Cd} {X:List Nat} {B0:Nat} {w0:World}
theorem freeze_ok {μ:List Loc} {w:World}:∀(bs:List Nat) {H:List AObj},HOk ty P.cellsOf cd X B0 w0 μ H w →
  HOk ty P.cellsOf cd X B0 w0 μ (bs.foldl freeze1 H) w∧Fut X B0 μ.length μ H w μ (bs.foldl freeze1 H) w∧(bs.foldl freeze1 H).length=H.length
 | [],H,h=>⟨h,Fut.refl h,rfl⟩
 | b::bs,H,h=>by
  simp only[List.foldl_cons]
  have h1:HOk ty P.cellsOf cd X B0 w0 μ (freeze1 H b) w∧Fut X B0 μ.length μ H w μ (freeze1 H b) w∧(freeze1 H b).length=H.length:=by
   unfold freeze1
   split
   ·rename_i o ho
    obtain⟨l,hl⟩:=h.loc ho
    have:=h.less hl ho (o':=o.frozen) (by
      intro b' hb
      cases o<;>simp_all [AObj.frozen,ownB]) (by
      intro b' hb
      cases o<;>simp_all [AObj.frozen,usesB]) (fun M' hM=>by
      have hobj:=(h.obj b l o hl ho).mono hM (fun _ _ h=>h) (fun _ _=>rfl) (μ':=μ) (w':=w)
      cases o<;>exact hobj)
    exact⟨this.1,this.2,by simp⟩
   ·exact⟨h,Fut.refl h,rfl⟩
  obtain⟨h2,h3,h4⟩:=freeze_ok bs h1.1
  exact⟨h2,Fut.trans (Nat.le_refl _) h1.2.1 h3,by rw[h4,h1.2.2]⟩
theorem freeze1_get (H:List AObj) (b i:Nat):(freeze1 H b)[i]? = if b=i then (H[i]?).map AObj.frozen else H[i]?:=by
 unfold freeze1
 split
 ·rename_i o ho
  rw[List.getElem?_set]
  by_cases h:b=i
  ·subst h
   obtain⟨hl,_⟩:=List.getElem?_eq_some_iff.1 ho
   simp only[hl,and_self,if_true,ho,Option.map_some]
  ·simp[h]
 ·rename_i ho
  by_cases h:b=i
  ·subst h;simp[ho]
  ·simp[h]
theorem kindIs_freeze1 (H:List AObj) (b:Nat) (v:V) (κ:K):kindIs ty (freeze1 H b) v κ=kindIs ty H v κ:=by
 cases v with
 | sref b' off len=>
  simp only[kindIs,freeze1_get]
  by_cases hb:b=b'
  ·rw[if_pos hb]
   cases H[b']? with
   | none=>rfl
   | some o=>cases o<;>rfl
  ·rw[if_neg hb]
 | map b'=>
  simp only[kindIs,freeze1_get]
  by_cases hb:b=b'
  ·rw[if_pos hb]
   cases H[b']? with
   | none=>rfl
   | some o=>cases o<;>rfl
  ·rw[if_neg hb]
 | _=>rfl
theorem allKinds_freeze:∀(bs:List Nat) (H:List AObj) (vs:List V) (ts:List Nat),allKinds ty (bs.foldl freeze1 H) vs ts=allKinds ty H vs ts
 | [],_,_,_=>rfl
 | b::bs,H,vs,ts=>by
  rw[List.foldl_cons,allKinds_freeze bs]
  induction vs generalizing ts with
  | nil=>cases ts<;>rfl
  | cons v vs ih=>cases ts with
   | nil=>rfl
   | cons t ts=>simp only[allKinds,kindIs_freeze1,ih]
section ops
variable {R:Type} {E:Env} {hint:Hint} {μ:List Loc} {H:List AObj} {w:World} {regs:List V} {a:Act} {o:Oper} {k:V→Eff→Option R} {r:R} {next:Act→World→Prop} {Q:Exit→Act→World→Prop} {I:World→Prop} {gl:Nat}
variable (EO:EnvOk P E I gl) (hI:I w0) (hgl:gl≤B0) (h:HOk E.ty P.cellsOf E.rnd X B0 w0 μ H w) (hr:Regs P E.ty (M_ X μ H w) μ regs a.tmps) (hn:Nexts P E.ty E.rnd X B0 w0 μ H w a o.dst k r next)
theorem vFunc_ok {M:Mem} {u:V} {x:Value} {g:Nat} {fs cs:List V} (hr:RR E.ty P.cellsOf M μ u x) (h:vFunc u=some (g,fs,cs)):∃xs ys,x = .func (.func g) xs ys∧RVt E.ty P.cellsOf M μ fs xs.toList∧RVt E.ty P.cellsOf M μ cs ys.toList:=by
 unfold vFunc at h
 split at h
 ·simp only[Option.some.injEq,Prod.mk.injEq] at h
  obtain⟨rfl,rfl,rfl⟩:=h
  replace hr:=hr.resolve_left (by simp)
  obtain⟨κ,hr⟩:=hr
  simp only[RV,Rep] at hr
  exact⟨#[],#[],hr.2.2,by simp[RVt],by simp[RVt]⟩
 ·simp only[Option.some.injEq,Prod.mk.injEq] at h
  obtain⟨rfl,rfl,rfl⟩:=h
  replace hr:=hr.resolve_left (by simp)
  obtain⟨κ,hr⟩:=hr
  simp only[RV] at hr
  obtain⟨_,xs,ys,hx,h1,h2⟩:=hr
  exact⟨xs,ys,hx,h1,h2⟩
 ·simp at h
include EO in
theorem run_enter {c:Call} {fo:Operand} {g:Nat} {fn:Func} {xs ys:Array Value} (ho:o.op = .call c) (hc:c.callee = .value fo) (hx:a.eval fo = .func (.func g) xs ys) (hf:E.fn g=some fn) (hb:fn.body.isSome=true) (w:World) :
  (execOp a.eval o).run P w = .ok (.enter g (xs++c.args.map a.eval++ys)) w:=by
 obtain⟨h1,h2⟩:=EO.fn g fn hf
 have hb':fn.body.isNone=false:=by cases h:fn.body<;>simp_all
 simp only[execOp,ho,resolve,hc,Deferred.ofValue,hx]
 simp only[run_bind,run_pure,invoke,callFunc,program,Sem.run,h1,h2,hb',Bool.false_eq_true,if_false]
include EO h hr hn in
theorem op_prim {c:Call} {fo:Operand} {g:Nat} {p:List D→Option D} {fn:Func} (ho:o.op = .call c) (hc:c.callee = .value fo) (hvf:vFunc (val regs .func fo)=some (g,[],[])) (hp:E.prim g=some p) (hfn:E.fn g=some fn)
  (hl:c.args.toList.length=fn.params.toList.length) (hk:allKinds E.ty H (vals regs E.ty c.args.toList fn.params.toList) fn.params.toList=true)
  (he:evPrim E H p fn (vals regs E.ty c.args.toList fn.params.toList) k=some r):o.wp P a w next Q:=by
 have T:=EO.ty
 obtain⟨fx,fy,hx,hfx,hfy⟩:=vFunc_ok (val_ok hr .func fo) hvf
 have hfx0:fx = #[]:=by simp only[RVt] at hfx;exact Array.toList_inj.1 hfx
 have hfy0:fy = #[]:=by simp only[RVt] at hfy;exact Array.toList_inj.1 hfy
 subst hfx0 hfy0
 have hvals:=RVt.of_vals' hr c.args.toList fn.params.toList hl
 unfold evPrim at he
 split at he
 ·rename_i ds hds
  split at he
  ·rename_i res hres
   have hE:=pureEach_ok T h (st:=false) PM_le _ _ _ _ hvals hk hds
   obtain⟨v,h1,h2⟩:=EO.prim g p hp fn _ ds _ res w (EO.fn g fn hfn).1 hE hres
   have hargs:#[]++c.args.map a.eval++#[]=(c.args.toList.map a.eval).toArray:=by apply Array.toList_inj.1;simp
   refine wp_value (x:=v) (w':=w) ?_ (hn.same h he (resV_ok (h2 _)))
   simp only[execOp,ho,resolve,hc,Deferred.ofValue,hx]
   simp only[run_bind,run_pure,invoke]
   rw[hargs]
   exact h1
  ·simp at he
 ·simp at he
theorem disp_ok {E:Env} {ts us:List Nat}:∀{l:List (Nat×Nat)} {d:D} {ds:List D} {r:D},disp E ts us l d ds=some r→∃p∈l,∃x cc fn,d = .iface p.1 x∧E.con p.2=some cc∧E.fn p.2=some fn∧fn.body.isSome=true∧cc.plain=true∧fn.params.toList=p.1::ts∧fn.resultTypes.toList=us∧cc.run (x::ds)=some r
 | [],d,ds,r,h=>by simp[disp] at h
 | p::l,d,ds,r,h=>by
  simp only[disp] at h
  cases hT:isT p.1 d with
  | false=>
   rw[hT] at h
   obtain⟨q,hq,g⟩:=disp_ok (l:=l) h
   exact⟨q,List.mem_cons_of_mem _ hq,g⟩
  | true=>
   rw[hT] at h
   simp only[cond_true] at h
   split at h
   ·rename_i cc fn hcc hfn
    split at h
    ·rename_i hb
     cases d with
     | iface t x=>
      have ht:t=p.1:=by simpa[isT] using hT
      subst ht
      exact⟨p,List.mem_cons_self,x,cc,fn,rfl,hcc,hfn,hb.1,hb.2.1,hb.2.2.1,hb.2.2.2,h⟩
     | _=>simp[isT] at hT
    ·simp at h
   ·simp at h
include EO hI hgl h hr hn in
theorem op_invoke {c:Call} {x:Operand} {m:String} (ho:o.op = .call c) (hc:c.callee = .invoke x m) (hl:c.args.toList.length=c.argTypes.toList.length)
  (he:evInvoke E H (val regs .bad x) m (vals regs E.ty c.args.toList c.argTypes.toList) c.argTypes.toList o.type k=some r):o.wp P a w next Q:=by
 have T:=EO.ty
 unfold evInvoke at he
 split at he
 ·rename_i b d hv
  cases hk:allKinds E.ty H (vals regs E.ty c.args.toList c.argTypes.toList) c.argTypes.toList with
  | false=>rw[hk] at he;simp at he
  | true=>
   rw[hk] at he
   simp only[cond_true] at he
   split at he
   ·rename_i ds hds
    split at he
    ·rename_i res hres
     have hvals:=RVt.of_vals' hr c.args.toList c.argTypes.toList hl
     have hE:=pureEach_ok T h (st:=false) PM_le _ _ _ _ hvals hk hds
     have hrecv:=val_ok hr .bad x
     rw[hv] at hrecv
     rcases hrecv with hu | ⟨κ,hrv⟩
     ·simp at hu
     simp only[RV] at hrv
     obtain⟨p,hp,z,cc,fn,rfl,hcon,hfn,hb,hpl,hpar,hres',hrun'⟩:=disp_ok hres
     have hz:=hrv.2
     simp only[Rep] at hz
     obtain⟨_,_,y,hx,hy⟩:=hz
     obtain⟨h1,h2⟩:=EO.fn p.2 fn hfn
     have hb':fn.body.isNone=false:=by cases h:fn.body<;>simp_all
     have hm:=EO.meth m p hp y w
     have hrun:(execOp a.eval o).run P w = .ok (.enter p.2 (y::c.args.toList.map a.eval).toArray) w:=by
      have hargs:#[y]++(#[Value.iface p.1 y]++c.args.map a.eval).extract 1 (#[Value.iface p.1 y]++c.args.map a.eval).size=(y::c.args.toList.map a.eval).toArray:=by
       apply Array.toList_inj.1;simp;exact List.take_of_length_le (by simp)
      have h0:(#[Value.iface p.1 y]++c.args.map a.eval)[0]? = some (Value.iface p.1 y):=by rw[Array.getElem?_append_left (by simp)];rfl
      simp only[execOp,ho,resolve,hc,hx]
      simp only[run_bind,run_pure,invoke,h0,callMethod,program,Sem.run,hm,callFunc,h1,h2,hb',Bool.false_eq_true,if_false,hargs]
     have hcontr:=EO.con p.2 cc fn hcon hfn
     have hIw:I w:=EO.keep w0 w (h.below.mono hgl) hI
     unfold Oper.wp
     rw[hrun]
     rw[Oper.upon_enter]
     have hE':Each E.ty (PM X false w μ H) (z::ds) (fn.params.toList.map E.ty) (y::c.args.toList.map a.eval):=by
      rw[hpar]
      exact⟨_,_,_,_,rfl,rfl,Rep.mono E.ty PM_le _ _ _ hy,hE⟩
     refine(hcontr (X++[]) w (z::ds) _ res hIw (fun b hb=>?_) hE' hrun').mono ?_
     ·have:=h.resv b (by simpa using hb);have:=h.size;omega
     ·rintro e w' ⟨v,rfl,hbelow,hv'⟩
      rw[if_pos hpl] at hv'
      obtain⟨g1,g2⟩:=h.grow hbelow
      refine hn _ .none μ w' v he ?_ g1 g2
      have:=resV_ok (P:=P) (μ:=μ) (hv' (M_ X μ H w'))
      rw[hres'] at this
      exact this
    ·simp at he
   ·simp at he
 ·simp at he
include EO hI hgl h hr hn in
theorem op_con {c:Call} {fo:Operand} {g:Nat} {cc:Con} {fn:Func} (ho:o.op = .call c) (hc:c.callee = .value fo) (hvf:vFunc (val regs .func fo)=some (g,[],[])) (hcon:E.con g=some cc) (hfn:E.fn g=some fn)
  (hb:fn.body.isSome=true) (hl:c.args.toList.length=fn.params.toList.length) (hk:allKinds E.ty H (vals regs E.ty c.args.toList fn.params.toList) fn.params.toList=true)
  (he:evCon E H cc fn (vals regs E.ty c.args.toList fn.params.toList) k=some r):o.wp P a w next Q:=by
 have T:=EO.ty
 obtain⟨fx,fy,hx,hfx,hfy⟩:=vFunc_ok (val_ok hr .func fo) hvf
 have hfx0:fx = #[]:=by simp only[RVt] at hfx;exact Array.toList_inj.1 hfx
 have hfy0:fy = #[]:=by simp only[RVt] at hfy;exact Array.toList_inj.1 hfy
 subst hfx0 hfy0
 have hrun:=run_enter EO ho hc hx hfn hb w
 have hargs:#[]++c.args.map a.eval++#[]=(c.args.toList.map a.eval).toArray:=by apply Array.toList_inj.1;simp
 rw[hargs] at hrun
 have hvals:=RVt.of_vals' hr c.args.toList fn.params.toList hl
 have hcontr:=EO.con g cc fn hcon hfn
 have hIw:I w:=EO.keep w0 w (h.below.mono hgl) hI
 unfold Oper.wp
 rw[hrun]
 rw[Oper.upon_enter]
 unfold evCon at he
 cases hp:cc.plain with
 | true=>
  rw[hp] at he
  simp only[cond_true] at he
  split at he
  ·rename_i ds hds
   split at he
   ·rename_i res hres
    have hE:=pureEach_ok T h (st:=false) PM_le _ _ _ _ hvals hk hds
    refine(hcontr (X++[]) w ds _ res hIw (fun b hb=>?_) hE hres).mono ?_
    ·have:=h.resv b (by simpa using hb);have:=h.size;omega
    ·rintro e w' ⟨v,rfl,hbelow,hv⟩
     rw[if_pos hp] at hv
     obtain⟨g1,g2⟩:=h.grow hbelow
     exact hn _ .none μ w' v he (resV_ok (hv _)) g1 g2
   ·simp at he
  ·simp at he
 | false=>
  rw[hp] at he
  simp only[cond_false] at he
  obtain⟨f1,f2,f3⟩:=freeze_ok (V.refsL (vals regs E.ty c.args.toList fn.params.toList)) h
  split at he
  ·rename_i ds hds
   split at he
   ·rename_i res hres
    have hkf:allKinds E.ty ((V.refsL (vals regs E.ty c.args.toList fn.params.toList)).foldl freeze1 H) (vals regs E.ty c.args.toList fn.params.toList) fn.params.toList=true:=by
     rw[allKinds_freeze];exact hk
    have hE:=pureEach_ok T f1 (st:=true) f2.mem _ _ _ _ hvals hkf hds
    have hXb:∀b∈X++owned μ ((V.refsL (vals regs E.ty c.args.toList fn.params.toList)).foldl freeze1 H),b<w.heap.size:=by
     intro b hb
     rcases List.mem_append.1 hb with hb | hb
     ·have:=h.resv b hb;have:=h.size;omega
     ·obtain⟨j,l',o',g1,g2,g3⟩:=mem_owned.1 hb
      exact f1.bound j b ⟨l',o',g1,g2,(own_uses g3).1⟩
    refine(hcontr _ w ds _ res hIw hXb hE hres).mono ?_
    rintro e w' ⟨v,rfl,hbelow,hv⟩
    rw[if_neg (by simp[hp])] at hv
    cases hfr:cc.fresh with
    | false=>
     rw[hfr] at he
     simp only[cond_false] at he
     rw[if_neg (by simp[hfr])] at hv
     obtain⟨g1,g2⟩:=f1.grow hbelow
     refine hn _ (.freeze _) μ w' v he (resV_ok hv) g1 ?_
     exact Fut.trans (Nat.le_refl _) f2 g2
    | true=>
     rw[hfr] at he
     simp only[cond_true] at he
     rw[if_pos hfr] at hv
     rcases hv with ⟨t,a',e,es,blk,ms,hts,hke,rfl,rfl,hge,hblk,hent⟩ | ⟨t,e,nn,ds',hts,hke,rfl,hv⟩
     ·rw[hts] at he
      simp only[hke,D.elems,List.map_map] at he
      have hmap:(es.map ((fun p:D=>(p.at 0,p.at 1))∘fun p:D×D=>D.tup [p.1,p.2]))=es:=by
       have:((fun p:D=>(p.at 0,p.at 1))∘fun p:D×D=>D.tup [p.1,p.2])=id:=rfl
       rw[this,List.map_id]
      rw[hmap] at he
      obtain⟨_,hka,hkb⟩:=under_map T hke
      obtain⟨h1,h2⟩:=HOk.newAt' f1 (l:=⟨blk,0,0,.map a' e,false,false⟩) (o:=.map a' e es) hbelow (fun b hb=>by simp[usesB] at hb;omega) (fun M' hM hM2=>by
       simp only[ObjOk]
       refine⟨trivial,hka,hkb,ms,hblk,?_⟩
       have e2:M'=memOf w' (X++owned μ ((V.refsL (vals regs E.ty c.args.toList fn.params.toList)).foldl freeze1 H)++[blk]):=by rw[hM2];simp[ownB]
       rw[e2];exact hent)
      refine hn _ (.freezeNew _ _) _ w' _ he (.inr ⟨.map a' e,?_⟩) h1 (Fut.trans (Nat.le_refl _) f2 h2)
      simp only[RV]
      refine⟨⟨blk,0,0,.map a' e,false,false⟩,a',e,?_,rfl,rfl,rfl⟩
      rw[←f1.len];simp
     rw[hts] at he
     simp only[hke] at he
     have hne:=under_slice_ne T hke
     rcases hv with ⟨rfl,ad,rfl,ha⟩ | ⟨rfl,blk,base,cap,cs,et,fz,pre,mid,post,h1,rfl,h2,h3,h4,h5,h6,h7,h8⟩
     ·obtain⟨g1,g2,g3⟩:=newVirt f1 hbelow hne ad
      subst ha
      exact hn _ (.freezeNew _ _) _ w' _ he g3 g1 (Fut.trans (Nat.le_refl _) f2 g2)
     ·obtain⟨g1,g2,g3⟩:=newRow_at f1 hbelow (pre:=pre) h4 h1 h2 hne h3 (fun M' _ hM=>by rw[hM];simpa using h5) h6 h7 h8.1 h8.2
      exact hn _ (.freezeNew _ _) _ w' _ he g3 g1 (Fut.trans (Nat.le_refl _) f2 g2)
   ·simp at he
  ·simp at he
end ops
end
end Go.AM
namespace Go.AM
open Go Go.RowKit
section
variable {P:Program} {X:List Nat} {B0:Nat} {w0:World}
variable {R:Type} {E:Env} {hint:Hint} {I:World→Prop} {gl:Nat}
variable (EO:EnvOk P E I gl) (hI:I w0) (hgl:gl≤B0)
include EO hI hgl
theorem evOp_ok {μ:List Loc} {H:List AObj} {w:World} {regs:List V} {a:Act} {o:Oper} {k:V→Eff→Option R} {r:R} {next:Act→World→Prop} {Q:Exit→Act→World→Prop}
  (h:HOk E.ty P.cellsOf E.rnd X B0 w0 μ H w) (hr:Regs P E.ty (M_ X μ H w) μ regs a.tmps) (hn:Nexts P E.ty E.rnd X B0 w0 μ H w a o.dst k r next)
  (he:evOp E hint H regs o.type o.op k=some r):o.wp P a w next Q:=by
 have T:=EO.ty
 cases ho:o.op with
 | move x=>rw[ho] at he;exact op_move h hr hn (.inl ho) he
 | assign x=>rw[ho] at he;exact op_move h hr hn (.inr ho) he
 | pick c x y=>rw[ho] at he;exact op_pick h hr hn ho he
 | alloc t=>rw[ho] at he;exact op_alloc T h hr hn ho he
 | box t x=>rw[ho] at he;exact op_box T h hr hn ho he
 | build t ps=>rw[ho] at he;exact op_build T h hr hn ho he
 | buildSlice t n ps=>
  rw[ho] at he
  simp only[evOp] at he
  cases hoo:(hasOwn H (partRefs regs ps.toList)&&!hint.own) with
  | false=>rw[hoo] at he;exact op_evBS T h hr hn ho he
  | true=>
   rw[hoo] at he
   simp only[cond_true] at he
   obtain⟨f1,f2,f3⟩:=freeze_ok (partRefs regs ps.toList) h
   refine op_evBS T f1 (hr.mono f2.mem (f2.keeps (Nat.le_refl _))) (fun u e μ' w' x hk hv h' F'=>?_) ho he
   cases e with
   | none=>exact hn u (.freeze _) μ' w' x hk hv h' (Fut.trans (Nat.le_refl _) f2 F')
   | _=>simp at hk
 | load t x=>rw[ho] at he;exact op_load T h hr hn ho he
 | store t x y=>rw[ho] at he;exact op_store T h hr hn ho he
 | nilCheck x=>rw[ho] at he;exact op_nilCheck h hr hn ho he
 | sliceToArrayPointer t x=>rw[ho] at he;exact op_toArr T h hr hn ho he
 | binOp op t x y u=>rw[ho] at he;exact op_binOp T h hr hn ho he
 | unOp op t x=>rw[ho] at he;exact op_unOp T h hr hn ho he
 | convert s d x=>rw[ho] at he;exact op_convert T h hr hn ho he
 | makeInterface t x=>rw[ho] at he;exact op_makeInterface T h hr hn ho he
 | makeFunc fn f c=>rw[ho] at he;exact op_makeFunc h hr hn ho he
 | makeSlice t l c=>rw[ho] at he;exact op_makeSlice T h hr hn ho he
 | slice t x lo hi mx=>rw[ho] at he;exact op_sliceA T h hr hn ho he
 | fieldAddr t x f=>rw[ho] at he;exact op_fieldAddr T h hr hn ho he
 | field t x f=>rw[ho] at he;exact op_field T h hr hn ho he
 | indexAddr t x i=>rw[ho] at he;exact op_indexAddr T h hr hn ho he
 | index t x i=>rw[ho] at he;exact op_index T h hr hn ho he
 | range t x=>rw[ho] at he;exact op_range T h hr hn ho he
 | next it b=>rw[ho] at he;exact op_next h hr hn ho he
 | typeAssert x xT t ok=>rw[ho] at he;exact op_typeAssert T h hr hn ho he
 | makeMap t x=>rw[ho] at he;exact op_makeMap T h hr hn ho he
 | insert t m key v=>
  rw[ho] at he
  simp only[evOp] at he
  cases hu:hint.unk
  ·rw[hu] at he;exact op_insert T h hr hn (.inl ho) he
  ·rw[hu] at he;exact op_insertU T h hr hn (.inl ho) he
 | mapUpdate t m key v=>
  rw[ho] at he
  simp only[evOp] at he
  cases hu:hint.unk
  ·rw[hu] at he;exact op_insert T h hr hn (.inr ho) he
  ·rw[hu] at he;exact op_insertU T h hr hn (.inr ho) he
 | mapEntry t m key=>
  rw[ho] at he
  simp only[evOp] at he
  cases hu:hint.unk
  ·rw[hu] at he;simp at he
  ·rw[hu] at he;exact op_mapEntry T h hr hn ho he
 | entryStore t m i v=>rw[ho] at he;exact op_entryStore T h hr hn ho (by simpa only[evOp] using he)
 | lookup t m key ok=>
  rw[ho] at he
  simp only[evOp] at he
  cases hu:hint.unk
  ·rw[hu] at he;exact op_lookup T h hr hn ho he
  ·rw[hu] at he;exact op_lookupU T h hr hn ho he
 | extract x i=>rw[ho] at he;exact op_extract T h hr hn ho he
 | call c=>
  rw[ho] at he
  simp only[evOp] at he
  split at he
  ·rename_i b hc
   split at he
   ·rename_i hl
    cases b with
    | len=>exact op_len T h hr hn ho hc hl he
    | append=>exact op_append T h hr hn ho hc hl he
    | max=>exact op_maxmin (most:=true) h hr hn ho (by simpa using hc) hl he
    | min=>exact op_maxmin (most:=false) h hr hn ho (by simpa using hc) hl he
    | clear=>exact op_clear T h hr hn ho hc hl he
    | copy=>exact op_copy T h hr hn ho hc hl he
    | _=>simp[evBuiltin] at he
   ·simp at he
  ·rename_i fo hc
   split at he
   ·rename_i g hvf
    split at he
    ·rename_i p hp
     split at he
     ·rename_i fn hfn
      split at he
      ·rename_i hb
       exact op_prim EO h hr hn ho hc hvf hp hfn hb.1 hb.2 he
      ·simp at he
     ·simp at he
    split at he
    ·rename_i cc fn hcon hfn
     split at he
     ·rename_i hb
      exact op_con EO hI hgl h hr hn ho hc hvf hcon hfn hb.1 hb.2.1 hb.2.2 he
     ·simp at he
    ·simp at he
   ·simp at he
  ·rename_i x m hc
   split at he
   ·rename_i hl
    exact op_invoke EO hI hgl h hr hn ho hc hl he
   ·simp at he
 | _=>rw[ho] at he;simp[evOp] at he
structure Dp where
 n:Nat
 tl:List Deferred:=[]
 nd:Bool:=false
def Defs (D:Dp) (a:Act) (w:World):Prop:=
 D.n≤w.heap.size∧∃bs:List Nat,a.defers=bs.map (fun b=>({ target:=.collected b,args:=#[] }:Deferred))++D.tl∧bs.Nodup∧(∀b∈bs,D.n≤b∧w.heap[b]? = some (.deferred (some [])))∧(D.nd=true→bs=[])
omit EO hI hgl in
theorem Defs.next {n0:Dp} {base:Nat} {a a':Act} {w w':World} {μ μ':List Loc} {H H':List AObj} (h:Defs n0 a w) (F:Fut X B0 base μ H w μ' H' w') (e:a'.defers=a.defers):Defs n0 a' w':=by
 obtain⟨h0,bs,h1,h2,h3,h4⟩:=h
 exact⟨Nat.le_trans h0 F.below.size,bs,by rw[e,h1],h2,fun b hb=>⟨(h3 b hb).1,F.dfr b (h3 b hb).2⟩,h4⟩
omit EO hI hgl in
theorem Defs.nil {a:Act} {w:World} {nd:Bool} (h:a.defers=[]):Defs ⟨w.heap.size,[],nd⟩ a w:=⟨Nat.le_refl _,[],by simp[h],by simp,by simp,fun _=>rfl⟩
omit EO hI hgl in
theorem Defs.none {D:Dp} {a:Act} {w:World} (h:Defs D a w) (hn:D.nd=true):a.defers=D.tl:=by
 obtain⟨_,bs,h1,_,_,h4⟩:=h
 rw[h1,h4 hn];rfl
abbrev Fr (ro:Option Nat):Fence:={ Fence.wide with round:=ro }
omit EO hI hgl in
omit EO hI hgl in
theorem callsIn_Fr {ro:Option Nat} {n:Nat} {f:Nat} {args:Array Value} {w:World} {Q:Ending→World→Prop} (h:Calls P f args w Q):CallsIn (Fr ro) n P f args w Q:=by
 have:=(callsIn_wide (n:=n)).2 h
 exact this
omit EO hI hgl in
theorem rowsIn_Fr {ro:Option Nat} {n:Nat} {row:String} {args:Array Value} {w:World} {Q:Value→World→Prop} (h:Rows P row args w Q):RowsIn (Fr ro) n P row args w Q:=by
 intro c cs _
 obtain⟨v,w',r,s⟩:=h c cs
 exact⟨v,w',r,stepsIn_wide.2 s⟩
omit EO hI hgl in
theorem wpIn_of_wp {ro:Option Nat} {n:Nat} {a:Act} {w:World} {o:Oper} {next:Act→World→Prop} {Q:Exit→Act→World→Prop} (hd:∀c,o.op≠.defer c) (h:o.wp P a w next Q):o.wpIn (Fr ro) n P a w next Q:=by
 refine⟨fun _ _=>trivial,?_⟩
 have hs:o.semAt ro a.eval=execOp a.eval o:=by
  unfold Oper.semAt
  split
  ·rename_i c hc;exact absurd hc (hd c)
  ·rfl
 show o.uponIn (Fr ro) n P a next Q ((o.semAt ro a.eval).run P w)
 rw[hs]
 unfold Oper.wp at h
 revert h
 cases hrun:(execOp a.eval o).run P w with
 | ok x w'=>
  cases x with
  | value v=>exact id
  | skip=>exact id
  | defer d=>exact id
  | enter f args=>exact fun h=>⟨fun h=>by simp[Fence.wide] at h,callsIn_Fr h⟩
  | row row args=>exact fun h=>⟨fun h=>by simp[Fence.wide] at h,rowsIn_Fr h⟩
  | _=>exact fun h=>h.elim
 | halt x w'=>
  cases x with
  | panic v=>exact id
  | _=>exact fun h=>h.elim
theorem evOp_okIn {ro:Option Nat} {n:Nat} {μ:List Loc} {H:List AObj} {w:World} {regs:List V} {a:Act} {o:Oper} {k:V→Eff→Option R} {r:R} {next:Act→World→Prop} {Q:Exit→Act→World→Prop}
  (h:HOk E.ty P.cellsOf E.rnd X B0 w0 μ H w) (hr:Regs P E.ty (M_ X μ H w) μ regs a.tmps) (hn:Nexts P E.ty E.rnd X B0 w0 μ H w a o.dst k r next)
  (he:evOp E hint H regs o.type o.op k=some r):o.wpIn (Fr ro) n P a w next Q:=by
 refine wpIn_of_wp (fun c hc=>?_) (evOp_ok EO hI hgl h hr hn he)
 rw[hc] at he
 simp[evOp] at he
structure Pz (R:Type) where
 μ0:List Loc
 PQ:R→List PanicEntry→World→Prop
def Pz.at (Z:Pz R) (base:Nat) (μ:List Loc):Prop:=Z.μ0.length≤base∧∀i,i<Z.μ0.length→μ[i]? = Z.μ0[i]?
omit EO hI hgl in
theorem Pz.at.next {Z:Pz R} {b base:Nat} {μ μ':List Loc} {H H':List AObj} {w w':World} (h:Z.at b μ) (F:Fut X B0 base μ H w μ' H' w') (hb:b≤base):Z.at b μ':=
 ⟨h.1,fun i hi=>by rw[F.loc i (by have:=h.1;omega)];exact h.2 i hi⟩
omit EO hI hgl in
theorem Pz.at.to {Z:Pz R} {b:Nat} {μ:List Loc} (h:Z.at b μ):Z.at μ.length μ:=by
 refine⟨?_,h.2⟩
 rcases Nat.eq_zero_or_pos Z.μ0.length with h0 | h0
 ·omega
 ·have:=h.2 (Z.μ0.length-1) (by omega)
  have h3:Z.μ0[Z.μ0.length-1]? = some Z.μ0[Z.μ0.length-1]:=List.getElem?_eq_getElem (by omega)
  rw[h3] at this
  have:=(List.getElem?_eq_some_iff.1 this).1
  omega
def noPan {R:Type}:Pz R:=⟨[],fun _ _ _=>False⟩
def InlOk (P:Program) (E:Env) (X:List Nat) (B0:Nat) (w0:World) (Z:Pz R) (inl:Tgt→List V→List AObj→(V→List AObj→Option R)→Option R):Prop:=
 ∀(t:Tgt) (args:List V) (H:List AObj) (k:V→List AObj→Option R) (r:R) (μ:List Loc) (w:World) (xs:List Value) (Post:Value→World→Prop),
  inl t args H k=some r→HOk E.ty P.cellsOf E.rnd X B0 w0 μ H w→RVt E.ty P.cellsOf (M_ X μ H w) μ args xs→Z.at μ.length μ →
  (∀v H' μ' w' x,k v H'=some r→RR E.ty P.cellsOf (M_ X μ' H' w') μ' v x→HOk E.ty P.cellsOf E.rnd X B0 w0 μ' H' w'→Fut X B0 μ.length μ H w μ' H' w'→Post x w') →
  match t with
  | .panic=>∀x,xs=[x]→(∃t y,x = .iface t y)∧Z.PQ r [{ v:=x,recovered:=false }] w
  | .fn g=>Calls P g xs.toArray w fun e w'=>(∃x,e = .returned x∧Post x w')∨∃ch,e = .panicked ch∧Z.PQ r ch w'
  | .yield b=>∀l,μ[b]? = some l→YieldAt Fence.wide 0 P l.blk xs.toArray w fun e w'=>∃x,e = .returned x∧Post x w'
omit EO hI hgl in
theorem RVt.append {ty:Nat→K} {sz:Nat→Nat} {M:Mem} {μ:List Loc}:∀{as1 bs:List V} {xs ys:List Value},RVt ty sz M μ as1 xs→RVt ty sz M μ bs ys→RVt ty sz M μ (as1++bs) (xs++ys)
 | [],bs,xs,ys,h,k=>by simp only[RVt] at h;subst h;simpa using k
 | a::as1,bs,xs,ys,h,k=>by
  simp only[RVt] at h
  obtain⟨x,rest,rfl,h1,h2⟩:=h
  simp only[List.cons_append,RVt]
  exact⟨x,rest++ys,rfl,h1,RVt.append h2 k⟩
omit hI hgl in
theorem inlines_ok {Z:Pz R} {inl:Tgt→List V→List AObj→(V→List AObj→Option R)→Option R} (IN:InlOk P E X B0 w0 Z inl) {ro:Option Nat} {μ:List Loc} {H:List AObj} {w:World} {regs:List V} {a:Act} {o:Oper} {r:R} {next:Act→World→Prop} {Q:Exit→Act→World→Prop}
  (h:HOk E.ty P.cellsOf E.rnd X B0 w0 μ H w) (hr:Regs P E.ty (M_ X μ H w) μ regs a.tmps) {g:Tgt} {args:List V} {k:V→List AObj→Option R} (hi:inlines E regs o=some (g,args)) (he:inl g args H k=some r) (hz:Z.at μ.length μ) (hq:∀ch w',Z.PQ r ch w'→Q (.panic ch) a w')
  (hk:∀v H' μ' w' x,k v H'=some r→RR E.ty P.cellsOf (M_ X μ' H' w') μ' v x→HOk E.ty P.cellsOf E.rnd X B0 w0 μ' H' w'→Fut X B0 μ.length μ H w μ' H' w'→next (a.put o.dst x) w'):o.wpIn (Fr ro) 0 P a w next Q:=by
 unfold inlines at hi
 split at hi
 ·rename_i c ho
  have hd:∀c,o.op≠.defer c:=fun c' h=>by rw[ho] at h;cases h
  split at hi
  ·rename_i fo hc
   split at hi
   ·rename_i g' fs cs hvf
    obtain⟨xs,ys,hx,hxs,hys⟩:=vFunc_ok (val_ok hr .func fo) hvf
    have hfin:∀fn,E.fn g'=some fn→fn.body.isSome=true→c.args.toList.length=(fn.params.toList.drop fs.length).length→.fn g'=g→fs++vals regs E.ty c.args.toList (fn.params.toList.drop fs.length)++cs=args→o.wpIn (Fr ro) 0 P a w next Q:=by
     intro fn hfn hb hl hg hargs
     subst hg
     have hrun:=run_enter EO ho hc hx hfn hb w
     refine wpIn_of_wp hd ?_
     unfold Oper.wp
     rw[hrun,Oper.upon_enter]
     have hvals:=RVt.of_vals' hr c.args.toList (fn.params.toList.drop fs.length) hl
     have hall:=(hxs.append hvals).append hys
     rw[hargs] at hall
     have hcall:=IN (.fn g') args H k r μ w _ (fun x w'=>next (a.put o.dst x) w') he h hall hz hk
     have e1:(xs.toList++c.args.toList.map a.eval++ys.toList).toArray=xs++c.args.map a.eval++ys:=by apply Array.toList_inj.1;simp
     simp only at hcall
     rw[e1] at hcall
     refine hcall.mono ?_
     rintro e w' (⟨x,rfl,hx⟩ | ⟨ch,rfl,hx⟩)
     ·exact hx
     ·exact hq ch w' hx
    split at hi
    ·simp at hi
    ·split at hi
     ·rename_i fn hfn
      split at hi
      ·rename_i hb
       simp only[Option.some.injEq,Prod.mk.injEq] at hi
       exact hfin fn hfn hb.1 hb.2 hi.1 hi.2
      ·simp at hi
     ·simp at hi
   ·split at hi
    ·rename_i b hv
     split at hi
     ·rename_i hl
      simp only[Option.some.injEq,Prod.mk.injEq] at hi
      obtain⟨rfl,rfl⟩:=hi
      have hx:=val_ok hr .func fo
      rw[hv] at hx
      replace hx:=hx.resolve_left (by simp)
      obtain⟨κ,hx⟩:=hx
      simp only[RV] at hx
      obtain⟨_,l,hμ,_,hx⟩:=hx
      have hvals:=RVt.of_vals' hr c.args.toList c.argTypes.toList hl
      have hcall:=IN (.yield b) _ H k r μ w _ (fun x w'=>next (a.put o.dst x) w') he h hvals hz hk l hμ
      obtain⟨fn,tmps,asg,body,h1,h2⟩:=hcall
      refine⟨fun _ _=>trivial,?_⟩
      have hs:o.semAt ro a.eval=execOp a.eval o:=by
       unfold Oper.semAt
       split
       ·rename_i c hc';exact absurd hc' (hd c)
       ·rfl
      show o.uponIn (Fr ro) 0 P a next Q ((o.semAt ro a.eval).run P w)
      have hrun:(execOp a.eval o).run P w = .ok (.round l.blk fn tmps asg body) w:=by
       simp only[execOp,ho,resolve,hc,Deferred.ofValue,hx]
       simp only[run_bind,run_pure,invoke]
       have e1:(List.map a.eval c.args.toList).toArray=c.args.map a.eval:=by apply Array.toList_inj.1;simp
       rw[e1] at h1
       simpa using h1
      rw[hs,hrun,Oper.uponIn_round]
      refine⟨fun h=>by simp[Fence.wide] at h,?_⟩
      have h3:RoundIn (Fr ro) 0 P l.blk fn tmps asg body w (fun e w'=>∃x,e = .returned x∧next (a.put o.dst x) w'):=h2
      exact h3.mono (by rintro e w' ⟨x,rfl,hx⟩;exact hx)
     ·simp at hi
    ·simp at hi
  ·simp at hi
 ·rename_i x ho
  simp only[Option.some.injEq,Prod.mk.injEq] at hi
  obtain⟨rfl,rfl⟩:=hi
  have hx:RVt E.ty P.cellsOf (M_ X μ H w) μ [val regs .bad x] [a.eval x]:=by
   simp only[RVt]
   exact⟨_,[],rfl,val_ok hr .bad x,rfl⟩
  obtain⟨⟨t,y,h1⟩,h2⟩:=IN .panic _ H k r μ w _ (fun _ _=>True) he h hx hz (fun _ _ _ _ _ _ _ _ _=>trivial) (a.eval x) rfl
  refine⟨fun _ _=>trivial,?_⟩
  have hs:o.semAt ro a.eval=execOp a.eval o:=by
   unfold Oper.semAt
   split
   ·rename_i c hc';rw[ho] at hc';cases hc'
   ·rfl
  show o.uponIn (Fr ro) 0 P a next Q ((o.semAt ro a.eval).run P w)
  have hrun:(execOp a.eval o).run P w = .halt (.panic (a.eval x)) w:=by
   simp only[execOp,ho]
   rw[h1]
   rfl
  rw[hs,hrun]
  exact hq _ _ h2
 ·simp at hi
omit EO hI hgl in
theorem Regs.refine {M:Mem} {μ:List Loc} {regs:List V} {tmps:Array Value} (hr:Regs P E.ty M μ regs tmps) {t:Nat} {x:D} {b:Bool} (ht:regs.getD t .undef = .d .bool x) (hb:x.b=b) :
  Regs P E.ty M μ (regs.set t (.d .bool (.bool b))) tmps∧tmps[t]? = some (.bool b):=by
 have h1:=hr.get t
 rw[ht] at h1
 replace h1:=h1.resolve_left (by simp)
 obtain⟨κ,h1⟩:=h1
 simp only[RV] at h1
 obtain⟨rfl,h1⟩:=h1
 have h2:=rep_bool h1
 rw[hb] at h2
 have hlt:t<tmps.size:=by
  rcases Nat.lt_or_ge t tmps.size with h | h
  ·exact h
  ·rw[Array.getD_eq_getD_getElem?,Array.getElem?_eq_none h] at h2
   simp[Go.undef] at h2
 refine⟨⟨by simp[hr.len],fun i=>?_⟩,?_⟩
 ·rw[getD_set]
  split
  ·rename_i hi
   obtain⟨rfl,_⟩:=hi
   exact .inr ⟨.bool,by simp only[RV,Rep];exact⟨trivial,trivial,h2⟩⟩
  ·exact hr.get i
 ·rw[Array.getD_eq_getD_getElem?,Array.getElem?_eq_getElem hlt] at h2
  rw[Array.getElem?_eq_getElem hlt]
  simpa using h2
omit EO hI hgl in
theorem rr_skip {ty:Nat→K} {sz:Nat→Nat} {M:Mem} {μ:List Loc}:RR ty sz M μ (.tup []) Go.undef:=
 .inr ⟨.bad,by simp only[RV];exact⟨trivial,#[],rfl,by simp[RVt]⟩⟩
omit EO hI hgl in
theorem rr_skipped {ty:Nat→K} {sz:Nat→Nat} {M:Mem} {μ:List Loc} {x:Value} (h:RR ty sz M μ (.tup []) x):x=Go.undef:=by
 replace h:=h.resolve_left (by simp)
 obtain⟨κ,h⟩:=h
 simp only[RV] at h
 obtain⟨_,xs,rfl,h⟩:=h
 simp only[RVt] at h
 have:xs = #[]:=by apply Array.toList_inj.1;simpa using h
 simp[Go.undef,this]
theorem evOps_pre {Z:Pz R} {inl:Tgt→List V→List AObj→(V→List AObj→Option R)→Option R} (IN:InlOk P E X B0 w0 Z inl) {ro:Option Nat} {n0:Dp} {ops:Array Oper} {post:List Oper} {Q:Exit→Act→World→Prop} {r:R} {k:List V→List AObj→Option R}
  {base:Nat} {μs:List Loc} {Hs:List AObj} {ws:World} (hz:Z.at base μs) (hq:∀ch a' w',Z.PQ r ch w'→(n0.nd=true→a'.defers=n0.tl)→Q (.panic ch) a' w')
  (hk:∀regs' H' μ' a' w',k regs' H'=some r→HOk E.ty P.cellsOf E.rnd X B0 w0 μ' H' w'→Regs P E.ty (M_ X μ' H' w') μ' regs' a'.tmps→Defs n0 a' w'→Fut X B0 base μs Hs ws μ' H' w'→wpOpsIn (Fr ro) 0 P ops Q (List.range' (ops.size-post.length) post.length) a' w') :
  ∀(os pre:List Oper) (regs:List V) (H:List AObj) (μ:List Loc) (a:Act) (w:World),ops.toList=pre++(os++post)→evOps E inl hint (ops.toList.map (·.dst)) os regs H k=some r →
   HOk E.ty P.cellsOf E.rnd X B0 w0 μ H w→Regs P E.ty (M_ X μ H w) μ regs a.tmps→Defs n0 a w→Fut X B0 base μs Hs ws μ H w→wpOpsIn (Fr ro) 0 P ops Q (List.range' pre.length (os.length+post.length)) a w
 | [],pre,regs,H,μ,a,w,ho,he,h,hr,hd,F=>by
  simp only[evOps] at he
  have hs:ops.size-post.length=pre.length:=by rw[←Array.length_toList,ho];simp
  have:=hk regs H μ a w he h hr hd F
  rw[hs] at this
  simpa using this
 | o::os,pre,regs,H,μ,a,w,ho,he,h,hr,hd,F=>by
  have hget:ops[pre.length]? = some o:=by rw[←Array.getElem?_toList,ho];simp
  have hrest:ops.toList=(pre++[o])++(os++post):=by rw[ho];simp
  have hlen:(pre++[o]).length=pre.length+1:=by simp
  rw[show (o::os).length+post.length=os.length+post.length+1 by simp;omega]
  simp only[List.range'_succ,wpOpsIn,hget]
  have hgo:∀regs',Regs P E.ty (M_ X μ H w) μ regs' a.tmps →
    (match inlines E regs' o with
     | some (g,args)=>inl g args H fun v H'=>evOps E inl hint (ops.toList.map (·.dst)) os (setD regs' o.dst v) H' k
     | none=>evOp E hint H regs' o.type o.op fun v e=>evOps E inl hint (ops.toList.map (·.dst)) os (setD regs' o.dst v) (e.app H) k)=some r →
    o.wpIn (Fr ro) 0 P a w (wpOpsIn (Fr ro) 0 P ops Q (List.range' (pre.length+1) (os.length+post.length))) Q:=by
   intro regs' hr' he'
   have hnext:∀v H' μ' w' x,evOps E inl hint (ops.toList.map (·.dst)) os (setD regs' o.dst v) H' k=some r→RR E.ty P.cellsOf (M_ X μ' H' w') μ' v x→HOk E.ty P.cellsOf E.rnd X B0 w0 μ' H' w'→Fut X B0 μ.length μ H w μ' H' w' →
     wpOpsIn (Fr ro) 0 P ops Q (List.range' (pre.length+1) (os.length+post.length)) (a.put o.dst x) w':=by
    intro v H' μ' w' x hk' hv h' F'
    have:=evOps_pre IN (ro:=ro) hz hq hk os (pre++[o]) (setD regs' o.dst v) H' μ' (a.put o.dst x) w' hrest hk' h' ((hr'.mono F'.mem (F'.keeps (Nat.le_refl _))).set hv) (hd.next F' (put_defers _ _ _)) (F.trans F.len F')
    rwa [hlen] at this
   split at he'
   ·rename_i g args hi
    exact inlines_ok EO IN h hr' hi he' (hz.next F (Nat.le_refl _)).to (fun ch w' hc=>hq ch a w' hc hd.none) hnext
   ·exact evOp_okIn EO hI hgl h hr' (fun u e μ' w' x hk' hv h' F'=>hnext u (e.app H) μ' w' x hk' hv h' F') he'
  have hskip:∀regs',Regs P E.ty (M_ X μ H w) μ regs' a.tmps→evOps E inl hint (ops.toList.map (·.dst)) os (setD regs' o.dst (.tup [])) H k=some r →
    wpOpsIn (Fr ro) 0 P ops Q (List.range' (pre.length+1) (os.length+post.length)) (a.put o.dst Go.undef) w:=by
   intro regs' hr' he'
   have:=evOps_pre IN (ro:=ro) hz hq hk os (pre++[o]) (setD regs' o.dst (.tup [])) H μ (a.put o.dst Go.undef) w hrest he' h (hr'.set rr_skip) (hd.next (Fut.refl h) (put_defers _ _ _)) F
   rwa [hlen] at this
  simp only[evOps] at he
  split at he
  ·rename_i hg
   have hw:Region.wanted o (yielded ops a.tmps)=true:=by simp[Region.wanted,hg]
   rw[if_pos hw]
   exact(hgo regs hr he)
  ·rename_i j want hg
   split at he
   ·rename_i t hdst
    split at he
    ·rename_i x hx
     have hy:∀b,x.b=b→Region.wanted o (yielded ops a.tmps)=(some b==some want):=by
      intro b hb
      have h2:=(hr.refine hx hb).2
      have hdst':(ops[j]?).bind (·.dst)=some t:=by
       rw[←Array.getElem?_toList]
       rw[List.getD_eq_getElem?_getD,List.getElem?_map] at hdst
       cases hoj:ops.toList[j]? with
       | none=>rw[hoj] at hdst;simp at hdst
       | some oj=>rw[hoj] at hdst;simpa using hdst
      simp[Region.wanted,hg,yielded,hdst',h2]
     split at he
     ·rename_i hb
      have h1:=(hr.refine hx hb).1
      have hw:=hy true hb
      cases want with
      | true=>
       simp only[cond_true] at he
       rw[if_pos (by rw[hw];rfl)]
       exact(hgo _ h1 he)
      | false=>
       simp only[cond_false] at he
       rw[if_neg (by rw[hw];simp)]
       exact⟨fun _ _=>trivial,hskip _ h1 he⟩
     ·rename_i hb
      have h1:=(hr.refine hx hb).1
      have hw:=hy false hb
      cases want with
      | true=>
       simp only[cond_true] at he
       rw[if_neg (by rw[hw];simp)]
       exact⟨fun _ _=>trivial,hskip _ h1 he⟩
      | false=>
       simp only[cond_false] at he
       rw[if_pos (by rw[hw];rfl)]
       exact(hgo _ h1 he)
    ·rename_i hx
     have h2:=hr.get t
     rw[hx] at h2
     have h3:=rr_skipped h2
     have hw:Region.wanted o (yielded ops a.tmps)=false:=by
      have hdst':(ops[j]?).bind (·.dst)=some t:=by
       rw[←Array.getElem?_toList]
       rw[List.getD_eq_getElem?_getD,List.getElem?_map] at hdst
       cases hoj:ops.toList[j]? with
       | none=>rw[hoj] at hdst;simp at hdst
       | some oj=>rw[hoj] at hdst;simpa using hdst
      rw[Array.getD_eq_getD_getElem?] at h3
      cases hat:a.tmps[t]? with
      | none=>simp[Region.wanted,hg,yielded,hdst',hat]
      | some y=>
       rw[hat] at h3
       simp only[Option.getD_some] at h3
       subst h3
       simp[Region.wanted,hg,yielded,hdst',hat,Go.undef]
     rw[if_neg (by rw[hw];simp)]
     exact⟨fun _ _=>trivial,hskip _ hr he⟩
    ·simp at he
   ·simp at he
theorem evOps_ok {Z:Pz R} {inl:Tgt→List V→List AObj→(V→List AObj→Option R)→Option R} (IN:InlOk P E X B0 w0 Z inl) {ro:Option Nat} {n0:Dp} {ops:Array Oper} {Q:Exit→Act→World→Prop} {r:R} {k:List V→List AObj→Option R}
  {base:Nat} {μs:List Loc} {Hs:List AObj} {ws:World} (hz:Z.at base μs) (hq:∀ch a' w',Z.PQ r ch w'→(n0.nd=true→a'.defers=n0.tl)→Q (.panic ch) a' w')
  (hk:∀regs' H' μ' a' w',k regs' H'=some r→HOk E.ty P.cellsOf E.rnd X B0 w0 μ' H' w'→Regs P E.ty (M_ X μ' H' w') μ' regs' a'.tmps→Defs n0 a' w'→Fut X B0 base μs Hs ws μ' H' w'→Q .normal a' w')
  (os pre:List Oper) (regs:List V) (H:List AObj) (μ:List Loc) (a:Act) (w:World) (ho:ops.toList=pre++os) (he:evOps E inl hint (ops.toList.map (·.dst)) os regs H k=some r)
  (h:HOk E.ty P.cellsOf E.rnd X B0 w0 μ H w) (hr:Regs P E.ty (M_ X μ H w) μ regs a.tmps) (hd:Defs n0 a w) (F:Fut X B0 base μs Hs ws μ H w):wpOpsIn (Fr ro) 0 P ops Q (List.range' pre.length os.length) a w:=
 evOps_pre EO hI hgl IN (ro:=ro) (post:=[]) hz hq (fun regs' H' μ' a' w' h1 h2 h3 h4 h5=>hk regs' H' μ' a' w' h1 h2 h3 h4 h5) os pre regs H μ a w (by simpa using ho) he h hr hd F
end
end Go.AM
namespace Go.AM
open Go Go.RowKit
section
variable {P:Program} {ty:Nat→K} {sz:Nat→Nat} {cd:Cd} {X:List Nat} {B0:Nat} {w0:World}
def renN (i j b:Nat):Nat:=bif b==i then j else b
mutual
theorem RV.ren {M M':Mem} {μ μ':List Loc} {i j:Nat} (hM:M.le M'):∀(u:V) (κ:K) (x:Value),(∀b∈u.refs,∀l,μ[b]? = some l→μ'[renN i j b]? = some l)→RV ty sz M μ u κ x→RV ty sz M' μ' (u.ren i j) κ x
 | .d κ' y,κ,x,_,k=>by simp only[V.ren,RV] at k ⊢;exact⟨k.1,Rep.mono ty hM _ _ _ k.2⟩
 | .agg κ' vs,κ,x,h,k=>by
  simp only[V.ren,RV] at k ⊢
  obtain⟨a,b,cs,c,e⟩:=k
  exact⟨a,b,cs,c,RVs.ren hM vs _ _ (by simpa only[V.refs] using h) e⟩
 | .tup vs,κ,x,h,k=>by
  simp only[V.ren,RV] at k ⊢
  obtain⟨a,xs,c,e⟩:=k
  exact⟨a,xs,c,RVt.ren hM vs _ (by simpa only[V.refs] using h) e⟩
 | .dtup κs y,κ,x,_,k=>by
  simp only[V.ren,RV] at k ⊢
  obtain⟨a,ds,xs,b,c,e⟩:=k
  exact⟨a,ds,xs,b,c,Each.mono ty hM _ _ _ e⟩
 | .sref b off len,κ,x,h,k=>by
  simp only[V.ren,RV] at k ⊢
  obtain⟨l,n,e,a,r⟩:=k
  exact⟨l,n,e,h b (by simp[V.refs]) l a,r⟩
 | .lit e ds,κ,x,_,k=>by
  simp only[V.ren,RV] at k ⊢
  obtain⟨a,ad,cs,b,c,r⟩:=k
  exact⟨a,ad,cs,b,c.mono hM,Reps.mono ty hM _ _ _ r⟩
 | .ptr b p κ',κ,x,h,k=>by
  simp only[V.ren,RV] at k ⊢
  obtain⟨a,l,c,r⟩:=k
  exact⟨a,l,h b (by simp[V.refs]) l c,r⟩
 | .cptr κ' y,κ,x,_,k=>by
  simp only[V.ren,RV] at k ⊢
  obtain⟨a,ad,y',b,c,r⟩:=k
  exact⟨a,ad,y',b,c.mono hM,Rep.mono ty hM _ _ _ r⟩
 | .func f a c,κ,x,h,k=>by
  simp only[V.ren,RV] at k ⊢
  obtain⟨e,xs,ys,b,r,r'⟩:=k
  exact⟨e,xs,ys,b,RVt.ren hM a _ (fun b hb=>h b (by simp[V.refs,hb])) r,RVt.ren hM c _ (fun b hb=>h b (by simp[V.refs,hb])) r'⟩
 | .iface t u,κ,x,h,k=>by
  simp only[V.ren,RV] at k ⊢
  obtain⟨a,n,y,b,r⟩:=k
  exact⟨a,n,y,b,RV.ren hM u _ _ (by simpa only[V.refs] using h) r⟩
 | .map b,κ,x,h,k=>by
  simp only[V.ren,RV] at k ⊢
  obtain⟨l,a,e,c,r⟩:=k
  exact⟨l,a,e,h b (by simp[V.refs]) l c,r⟩
 | .iter b,κ,x,h,k=>by
  simp only[V.ren,RV] at k ⊢
  obtain⟨a,l,c,r⟩:=k
  exact⟨a,l,h b (by simp[V.refs]) l c,r⟩
 | .yield b,κ,x,h,k=>by
  simp only[V.ren,RV] at k ⊢
  obtain⟨a,l,c,r⟩:=k
  exact⟨a,l,h b (by simp[V.refs]) l c,r⟩
 | .undef,κ,x,_,k=>by simp only[RV] at k
theorem RVs.ren {M M':Mem} {μ μ':List Loc} {i j:Nat} (hM:M.le M'):∀(us:List V) (κs:List K) (cs:List Value),(∀b∈V.refsL us,∀l,μ[b]? = some l→μ'[renN i j b]? = some l)→RVs ty sz M μ us κs cs→RVs ty sz M' μ' (V.renL i j us) κs cs
 | [],_,_,_,k=>by simpa only[RVs,V.renL] using k
 | u::us,κs,cs,h,k=>by
  simp only[V.renL,RVs] at k ⊢
  obtain⟨κ,κs',x,rest,a,b,n,c,e⟩:=k
  exact⟨κ,κs',x,rest,a,b,n,RV.ren hM u _ _ (fun b hb=>h b (by simp[V.refsL,hb])) c,RVs.ren hM us _ _ (fun b hb=>h b (by simp[V.refsL,hb])) e⟩
theorem RVt.ren {M M':Mem} {μ μ':List Loc} {i j:Nat} (hM:M.le M'):∀(us:List V) (xs:List Value),(∀b∈V.refsL us,∀l,μ[b]? = some l→μ'[renN i j b]? = some l)→RVt ty sz M μ us xs→RVt ty sz M' μ' (V.renL i j us) xs
 | [],_,_,k=>by simpa only[RVt,V.renL] using k
 | u::us,xs,h,k=>by
  simp only[V.renL,RVt] at k ⊢
  obtain⟨x,rest,a,b,e⟩:=k
  refine⟨x,rest,a,?_,RVt.ren hM us _ (fun b hb=>h b (by simp[V.refsL,hb])) e⟩
  rcases b with b | ⟨κ,b⟩
  ·left;rw[b];rfl
  ·exact .inr ⟨κ,RV.ren hM u _ _ (fun b hb=>h b (by simp[V.refsL,hb])) b⟩
end
mutual
theorem V.ren_self {i:Nat}:∀u:V,u.ren i i=u
 | .d κ x=>rfl
 | .agg κ vs=>by simp only[V.ren,V.renL_self vs]
 | .tup vs=>by simp only[V.ren,V.renL_self vs]
 | .dtup κs x=>rfl
 | .sref b o n=>by simp only[V.ren];congr;cases h:b==i<;>simp_all
 | .lit e ds=>rfl
 | .ptr b p κ=>by simp only[V.ren];congr;cases h:b==i<;>simp_all
 | .cptr κ x=>rfl
 | .func f a c=>by simp only[V.ren,V.renL_self a,V.renL_self c]
 | .iface t v=>by simp only[V.ren,V.ren_self v]
 | .map b=>by simp only[V.ren];congr;cases h:b==i<;>simp_all
 | .iter b=>by simp only[V.ren];congr;cases h:b==i<;>simp_all
 | .yield b=>by simp only[V.ren];congr;cases h:b==i<;>simp_all
 | .undef=>rfl
theorem V.renL_self {i:Nat}:∀us:List V,V.renL i i us=us
 | []=>rfl
 | u::us=>by simp only[V.renL,V.ren_self u,V.renL_self us]
end
theorem renN_self (i b:Nat):renN i i b=b:=by
 unfold renN;cases h:b==i<;>simp_all
theorem RV.agree {M M':Mem} {μ μ':List Loc} (hM:M.le M') {u:V} {κ:K} {x:Value} (h:∀b∈u.refs,∀l,μ[b]? = some l→μ'[b]? = some l) (k:RV ty sz M μ u κ x):RV ty sz M' μ' u κ x:=by
 have:=RV.ren (i:=0) (j:=0) hM u κ x (fun b hb l hl=>by rw[renN_self];exact h b hb l hl) k
 rwa [V.ren_self] at this
theorem refsL_mem {vs:List V} {b:Nat}:b∈V.refsL vs↔∃v∈vs,b∈v.refs:=by
 induction vs with
 | nil=>simp[V.refsL]
 | cons v vs ih=>simp[V.refsL,ih]
theorem keep_get:∀(live:List Nat) (n:Nat) (vs:List V) (i:Nat),(keep live n vs).getD i .undef=if live.contains (n+i)=true then vs.getD i .undef else .undef
 | live,n,[],i=>by simp[keep]
 | live,n,v::vs,i=>by
  cases i with
  | zero=>simp only[keep,List.getD_cons_zero,Nat.add_zero];cases live.contains n<;>simp
  | succ i=>
   simp only[keep,List.getD_cons_succ,keep_get live (n+1) vs i]
   rw[show n+1+i=n+(i+1) by omega]
theorem keep_length:∀(live:List Nat) (n:Nat) (vs:List V),(keep live n vs).length=vs.length
 | _,_,[]=>rfl
 | live,n,_::vs=>by simp[keep,keep_length live (n+1) vs]
theorem keep_ok {M:Mem} {μ:List Loc} {regs:List V} {tmps:Array Value} (live:List Nat) (h:Regs P ty M μ regs tmps):Regs P ty M μ (keep live 0 regs) tmps:=by
 refine⟨by rw[keep_length];exact h.len,fun i=>?_⟩
 rw[keep_get]
 split
 ·exact h.get i
 ·exact .inl rfl
theorem take_ok {μ:List Loc} {H:List AObj} {w:World} (h:HOk ty P.cellsOf cd X B0 w0 μ H w) {n:Nat} {regs:List V} {tmps:Array Value} (hr:Regs P ty (M_ X μ H w) μ regs tmps)
  (h1:below n (V.refsL regs)=true) (h2:below n ((H.take n).map AObj.refs).flatten=true) {base:Nat} (hb:base≤n) (hn:base≤μ.length) :
  HOk ty P.cellsOf cd X B0 w0 (μ.take n) (H.take n) w∧Regs P ty (M_ X (μ.take n) (H.take n) w) (μ.take n) regs tmps∧Fut X B0 base μ H w (μ.take n) (H.take n) w:=by
 have hget:∀{α:Type} {l:List α} {i:Nat} {x:α},(l.take n)[i]? = some x→l[i]? = some x∧i<n:=by
  intro α l i x hx
  rw[List.getElem?_take] at hx
  split at hx
  ·rename_i hi;exact⟨hx,hi⟩
  ·simp at hx
 have hput:∀{α:Type} {l:List α} {i:Nat} {x:α},l[i]? = some x→i<n→(l.take n)[i]? = some x:=by
  intro α l i x hx hi
  rw[List.getElem?_take,if_pos hi];exact hx
 have hOwn:∀i b,Own (μ.take n) (H.take n) i b→Own μ H i b:=by
  rintro i b ⟨l,o,a1,a2,a3⟩
  exact⟨l,o,(hget a1).1,(hget a2).1,a3⟩
 have hUses:∀i b,Uses (μ.take n) (H.take n) i b→Uses μ H i b:=by
  rintro i b ⟨l,o,a1,a2,a3⟩
  exact⟨l,o,(hget a1).1,(hget a2).1,a3⟩
 have hle:(memOf w (X++owned μ H)).le (memOf w (X++owned (μ.take n) (H.take n))):=by
  refine memOf_leX (fun _ _ _=>rfl) (fun b hb=>.inl ?_)
  obtain⟨j,hj⟩:=mem_owned.1 hb
  exact mem_owned.2 ⟨j,hOwn j b hj⟩
 refine⟨⟨by simp[h.len],?_,fun i j b a1 a2=>h.inj i j b (hOwn _ _ a1) (hUses _ _ a2),fun i b a1=>h.low i b (hUses _ _ a1),h.resv,h.below,h.size⟩,⟨hr.len,fun i=>?_⟩,⟨fun i hi=>?_,?_,hle,Below.refl _ _,fun _ h=>h⟩⟩
 ·intro i l o a1 a2
  have hobj:=h.obj i l o (hget a1).1 (hget a2).1
  cases o with
  | var κ u=>
   simp only[ObjOk] at hobj ⊢
   obtain⟨b1,b2,b3,b4,cs,et,x,b5,b6,b7⟩:=hobj
   refine⟨b1,b2,b3,b4,cs,et,x,b5,RV.agree hle (fun b hb l' hl'=>hput hl' ?_) b6,b7⟩
   have:b∈((H.take n).map AObj.refs).flatten:=List.mem_flatten.2 ⟨AObj.refs (.var κ u),List.mem_map.2 ⟨_,List.mem_of_getElem? a2,rfl⟩,hb⟩
   have:=List.all_eq_true.1 h2 b this
   simpa using this
  | row e own nn ds=>exact ObjOk.mono hle (μ:=μ) (fun i l hl=>hl) (fun _ _=>rfl) hobj |> fun k=>by simp only[ObjOk] at k ⊢;exact k
  | map a e es=>exact ObjOk.mono hle (μ:=μ) (fun i l hl=>hl) (fun _ _=>rfl) hobj |> fun k=>by simp only[ObjOk] at k ⊢;exact k
  | iter s pos=>exact hobj
  | loop st f id u=>
   simp only[ObjOk] at hobj ⊢
   obtain⟨r,b1,b2,b3,b6⟩:=hobj
   refine⟨r,b1,b2,b3,RV.agree hle (fun b hb l' hl'=>hput hl' ?_) b6⟩
   have:b∈((H.take n).map AObj.refs).flatten:=List.mem_flatten.2 ⟨AObj.refs (.loop st f id u),List.mem_map.2 ⟨_,List.mem_of_getElem? a2,rfl⟩,hb⟩
   have:=List.all_eq_true.1 h2 b this
   simpa using this
  | dead=>trivial
 ·rcases hr.get i with hu | ⟨κ,hu⟩
  ·exact .inl hu
  ·refine .inr ⟨κ,RV.agree hle (fun b hb l hl=>hput hl ?_) hu⟩
   have hi:i<regs.length:=by
    rcases Nat.lt_or_ge i regs.length with h | h
    ·exact h
    ·rw[List.getD_eq_getElem?_getD,List.getElem?_eq_none h] at hu;simp[RV] at hu
   have:b∈V.refsL regs:=refsL_mem.2 ⟨regs.getD i .undef,by rw[List.getD_eq_getElem?_getD,List.getElem?_eq_getElem hi];simp,hb⟩
   have:=List.all_eq_true.1 h1 b this
   simpa using this
 ·rw[List.getElem?_take,if_pos (by omega)]
 ·simp;omega
theorem ownB_ren {l:Loc} {o:AObj} {i j:Nat}:ownB l (o.ren i j)=ownB l o:=by cases o<;>rfl
theorem usesB_ren {l:Loc} {o:AObj} {i j:Nat}:usesB l (o.ren i j)=usesB l o:=by cases o<;>rfl
theorem relocate_ok {μ:List Loc} {H:List AObj} {w:World} (h:HOk ty P.cellsOf cd X B0 w0 μ H w) {base tgt r:Nat} {regs:List V} {tmps:Array Value} (hr:Regs P ty (M_ X μ H w) μ regs tmps) {regs':List V} {H':List AObj}
  (he:relocate base tgt r regs H=some (regs',H')) (hb0:base≤μ.length) :
  ∃μ',HOk ty P.cellsOf cd X B0 w0 μ' H' w∧Regs P ty (M_ X μ' H' w) μ' regs' tmps∧Fut X B0 base μ H w μ' H' w∧μ'.length=μ.length∧H'.length=H.length:=by
 unfold relocate at he
 split at he
 ·rename_i b off n hreg
  cases hbt:(b==tgt) with
  | true=>
   rw[hbt] at he
   simp only[cond_true,Option.some.injEq,Prod.mk.injEq] at he
   obtain⟨rfl,rfl⟩:=he
   exact⟨μ,h,hr,⟨fun _ _=>rfl,hb0,Mem.le_refl _,Below.refl _ _,fun _ h=>h⟩,rfl,rfl⟩
  | false=>
   rw[hbt] at he
   simp only[cond_false] at he
   have hne:b≠tgt:=by simpa using hbt
   cases hc:(decide (base≤tgt)&&!((V.refsL regs).contains tgt)&&!((H.map AObj.refs).flatten.contains tgt)) with
   | false=>rw[hc] at he;simp at he
   | true=>
    rw[hc] at he
    simp only[cond_true] at he
    simp only[Bool.and_eq_true,decide_eq_true_eq,Bool.not_eq_true'] at hc
    obtain⟨⟨hbase,hnr⟩,hnh⟩:=hc
    have hnr':tgt∉V.refsL regs:=fun hm=>by rw[List.contains_iff_mem.2 hm] at hnr;simp at hnr
    have hnh':tgt∉(H.map AObj.refs).flatten:=fun hm=>by rw[List.contains_iff_mem.2 hm] at hnh;simp at hnh
    split at he
    ·rename_i o hdead hob
     simp only[Option.some.injEq,Prod.mk.injEq] at he
     obtain⟨rfl,rfl⟩:=he
     obtain⟨lb,hlb⟩:=h.loc hob
     obtain⟨lt,hlt⟩:=h.loc hdead
     have htl:tgt<μ.length:=(List.getElem?_eq_some_iff.1 hlt).1
     have hbl:b<μ.length:=(List.getElem?_eq_some_iff.1 hlb).1
     have hmu:∀i,(μ.set tgt lb)[i]? = if tgt=i then some lb else μ[i]?:=by
      intro i
      rw[List.getElem?_set]
      split
      ·rename_i hi;subst hi;simp[htl]
      ·rfl
     have hH:∀i,(((H.set tgt o).set b .dead).map (AObj.ren b tgt))[i]? = if b=i then some .dead else if tgt=i then some (o.ren b tgt) else (H[i]?).map (AObj.ren b tgt):=by
      intro i
      rw[List.getElem?_map,List.getElem?_set,List.getElem?_set]
      have e1:b<(H.set tgt o).length:=by simp[←h.len,hbl]
      have e2:tgt<H.length:=by rw[←h.len];exact htl
      by_cases hi:b=i
      ·subst hi;have e3:b<H.length:=by rw[←h.len];exact hbl
       simp[e3,AObj.ren]
      ·by_cases hi2:tgt=i
       ·subst hi2;simp[hi,e2]
       ·simp[hi,hi2]
     have hren:∀c,c≠tgt→∀l,μ[c]? = some l→(μ.set tgt lb)[renN b tgt c]? = some l:=by
      intro c hc l hl
      rw[hmu]
      unfold renN
      cases hcb:(c==b) with
      | true=>
       have:c=b:=by simpa using hcb
       subst this
       rw[hlb] at hl
       simpa using hl
      | false=>simp only[cond_false];rw[if_neg (fun h=>hc h.symm)];exact hl
     have hOwn:∀i c,Own (μ.set tgt lb) (((H.set tgt o).set b .dead).map (AObj.ren b tgt)) i c→i≠b∧Own μ H (if tgt=i then b else i) c:=by
      rintro i c ⟨l,o',a1,a2,a3⟩
      rw[hH] at a2
      rw[hmu] at a1
      by_cases hi:b=i
      ·rw[if_pos hi] at a2;simp only[Option.some.injEq] at a2;subst a2;simp[ownB] at a3
      ·rw[if_neg hi] at a2
       refine⟨fun h=>hi h.symm,?_⟩
       by_cases hi2:tgt=i
       ·rw[if_pos hi2] at a1 a2 ⊢
        simp only[Option.some.injEq] at a1 a2
        subst a1 a2
        exact⟨lb,o,hlb,hob,by rwa [ownB_ren] at a3⟩
       ·rw[if_neg hi2] at a1 a2 ⊢
        cases hHi:H[i]? with
        | none=>rw[hHi] at a2;simp at a2
        | some oi=>
         rw[hHi] at a2
         simp only[Option.map_some,Option.some.injEq] at a2
         subst a2
         exact⟨l,oi,a1,hHi,by rwa [ownB_ren] at a3⟩
     have hUses:∀i c,Uses (μ.set tgt lb) (((H.set tgt o).set b .dead).map (AObj.ren b tgt)) i c→i≠b∧Uses μ H (if tgt=i then b else i) c:=by
      rintro i c ⟨l,o',a1,a2,a3⟩
      rw[hH] at a2
      rw[hmu] at a1
      by_cases hi:b=i
      ·rw[if_pos hi] at a2;simp only[Option.some.injEq] at a2;subst a2;simp[usesB] at a3
      ·rw[if_neg hi] at a2
       refine⟨fun h=>hi h.symm,?_⟩
       by_cases hi2:tgt=i
       ·rw[if_pos hi2] at a1 a2 ⊢
        simp only[Option.some.injEq] at a1 a2
        subst a1 a2
        exact⟨lb,o,hlb,hob,by rwa [usesB_ren] at a3⟩
       ·rw[if_neg hi2] at a1 a2 ⊢
        cases hHi:H[i]? with
        | none=>rw[hHi] at a2;simp at a2
        | some oi=>
         rw[hHi] at a2
         simp only[Option.map_some,Option.some.injEq] at a2
         subst a2
         exact⟨l,oi,a1,hHi,by rwa [usesB_ren] at a3⟩
     have hle:(memOf w (X++owned μ H)).le (memOf w (X++owned (μ.set tgt lb) (((H.set tgt o).set b .dead).map (AObj.ren b tgt)))):=by
      refine memOf_leX (fun _ _ _=>rfl) (fun c hc=>.inl ?_)
      obtain⟨j,hj⟩:=mem_owned.1 hc
      exact mem_owned.2 ⟨_,(hOwn j c hj).2⟩
     have hobj:∀(i:Nat) (l:Loc) (oi:AObj),μ[i]? = some l→H[i]? = some oi→ObjOk ty P.cellsOf cd (memOf w (X++owned (μ.set tgt lb) (((H.set tgt o).set b .dead).map (AObj.ren b tgt)))) (μ.set tgt lb) w l (oi.ren b tgt):=by
      intro i l oi a1 a2
      have hk:=h.obj i l oi a1 a2
      cases oi with
      | var κ u=>
       simp only[ObjOk,AObj.ren] at hk ⊢
       obtain⟨b1,b2,b3,b4,cs,et,x,b5,b6,b7⟩:=hk
       refine⟨b1,b2,b3,b4,cs,et,x,b5,RV.ren hle u κ x (fun c hc l' hl'=>hren c ?_ l' hl') b6,b7⟩
       rintro rfl
       exact hnh' (List.mem_flatten.2 ⟨AObj.refs (.var κ u),List.mem_map.2 ⟨_,List.mem_of_getElem? a2,rfl⟩,hc⟩)
      | row e own nn ds=>exact ObjOk.mono hle (μ:=μ) (μ':=μ) (fun _ _ h=>h) (fun _ _=>rfl) hk |> fun k=>by simp only[ObjOk,AObj.ren] at k ⊢;exact k
      | map a e es=>exact ObjOk.mono hle (μ:=μ) (μ':=μ) (fun _ _ h=>h) (fun _ _=>rfl) hk |> fun k=>by simp only[ObjOk,AObj.ren] at k ⊢;exact k
      | iter s pos=>exact hk
      | loop st f id u=>
       simp only[ObjOk,AObj.ren] at hk ⊢
       obtain⟨q,b1,b2,b3,b6⟩:=hk
       refine⟨q,b1,b2,b3,RV.ren hle u _ _ (fun c hc l' hl'=>hren c ?_ l' hl') b6⟩
       rintro rfl
       exact hnh' (List.mem_flatten.2 ⟨AObj.refs (.loop st f id u),List.mem_map.2 ⟨_,List.mem_of_getElem? a2,rfl⟩,hc⟩)
      | dead=>trivial
     refine⟨μ.set tgt lb,⟨by simp[h.len],?_,?_,fun i c hc=>h.low _ c (hUses i c hc).2,h.resv,h.below,h.size⟩,⟨by simp[hr.len],fun i=>?_⟩,⟨fun i hi=>?_,by simp;omega,hle,Below.refl _ _,fun _ h=>h⟩,by simp,by simp⟩
     ·intro i l oi a1 a2
      rw[hH] at a2
      rw[hmu] at a1
      by_cases hi:b=i
      ·rw[if_pos hi] at a2;simp only[Option.some.injEq] at a2;subst a2;trivial
      ·rw[if_neg hi] at a2
       by_cases hi2:tgt=i
       ·rw[if_pos hi2] at a1 a2
        simp only[Option.some.injEq] at a1 a2
        subst a1 a2
        exact hobj b lb o hlb hob
       ·rw[if_neg hi2] at a1 a2
        cases hHi:H[i]? with
        | none=>rw[hHi] at a2;simp at a2
        | some o'=>
         rw[hHi] at a2
         simp only[Option.map_some,Option.some.injEq] at a2
         subst a2
         exact hobj i l o' a1 hHi
     ·intro i j c hi hj
      obtain⟨n1,k1⟩:=hOwn i c hi
      obtain⟨n2,k2⟩:=hUses j c hj
      have:=h.inj _ _ c k1 k2
      by_cases e1:tgt=i<;>by_cases e2:tgt=j
      ·omega
      ·rw[if_pos e1,if_neg e2] at this;omega
      ·rw[if_neg e1,if_pos e2] at this;omega
      ·rw[if_neg e1,if_neg e2] at this;exact this
     ·have hgd:(regs.map (V.ren b tgt)).getD i .undef=(regs.getD i .undef).ren b tgt:=by
       simp only[List.getD_eq_getElem?_getD,List.getElem?_map]
       cases regs[i]?<;>rfl
      rw[hgd]
      rcases hr.get i with hu | ⟨κ,hu⟩
      ·left;rw[hu];rfl
      ·refine .inr ⟨κ,RV.ren hle _ _ _ (fun c hc l hl=>hren c ?_ l hl) hu⟩
       rintro rfl
       have hi:i<regs.length:=by
        rcases Nat.lt_or_ge i regs.length with h | h
        ·exact h
        ·rw[List.getD_eq_getElem?_getD,List.getElem?_eq_none h] at hu;simp[RV] at hu
       exact hnr' (refsL_mem.2 ⟨regs.getD i .undef,by rw[List.getD_eq_getElem?_getD,List.getElem?_eq_getElem hi];simp,hc⟩)
     ·rw[hmu,if_neg (by omega)]
    ·simp at he
 ·simp at he
theorem relocAll_ok {w:World} {base:Nat} {tmps:Array Value}:∀(tg:List (Nat×Nat)) {μ:List Loc} {H:List AObj} {regs regs':List V} {H':List AObj},HOk ty P.cellsOf cd X B0 w0 μ H w→Regs P ty (M_ X μ H w) μ regs tmps→base≤μ.length →
  relocAll base tg regs H=some (regs',H')→∃μ',HOk ty P.cellsOf cd X B0 w0 μ' H' w∧Regs P ty (M_ X μ' H' w) μ' regs' tmps∧Fut X B0 base μ H w μ' H' w∧μ'.length=μ.length∧H'.length=H.length
 | [],μ,H,regs,regs',H',h,hr,hb,he=>by
  simp only[relocAll,Option.some.injEq,Prod.mk.injEq] at he
  obtain⟨rfl,rfl⟩:=he
  exact⟨μ,h,hr,⟨fun _ _=>rfl,hb,Mem.le_refl _,Below.refl _ _,fun _ h=>h⟩,rfl,rfl⟩
 | (r,tgt)::tg,μ,H,regs,regs',H',h,hr,hb,he=>by
  simp only[relocAll] at he
  split at he
  ·rename_i regs1 H1 h1
   obtain⟨μ1,g1,g2,g3,g4,g5⟩:=relocate_ok h hr h1 hb
   obtain⟨μ2,k1,k2,k3,k4,k5⟩:=relocAll_ok tg g1 g2 (by omega) he
   exact⟨μ2,k1,k2,Fut.trans (Nat.le_refl _) g3 k3,by omega,by omega⟩
  ·simp at he
theorem headSt_ok {μ:List Loc} {H:List AObj} {w:World} (h:HOk ty P.cellsOf cd X B0 w0 μ H w) {base n0:Nat} {live:List Nat} {tg:List (Nat×Nat)} {regs regs':List V} {H':List AObj} {tmps:Array Value} (hr:Regs P ty (M_ X μ H w) μ regs tmps)
  (hb:base≤μ.length) (hbn:base≤n0) (he:headSt base live tg n0 regs H=some (regs',H')) :
  ∃μ',HOk ty P.cellsOf cd X B0 w0 μ' H' w∧Regs P ty (M_ X μ' H' w) μ' regs' tmps∧Fut X B0 base μ H w μ' H' w:=by
 unfold headSt at he
 split at he
 ·rename_i regs1 H1 h1
  obtain⟨μ1,g1,g2,g3,g4,g5⟩:=relocAll_ok tg h (keep_ok live hr) hb h1
  cases hc:(below n0 (V.refsL regs1)&&below n0 ((H1.take n0).map AObj.refs).flatten) with
  | false=>rw[hc] at he;simp at he
  | true=>
   rw[hc] at he
   simp only[cond_true,Option.some.injEq,Prod.mk.injEq] at he
   obtain⟨rfl,rfl⟩:=he
   simp only[Bool.and_eq_true] at hc
   obtain⟨k1,k2,k3⟩:=take_ok g1 g2 hc.1 hc.2 hbn (by omega)
   exact⟨_,k1,k2,Fut.trans (Nat.le_refl _) g3 k3⟩
 ·simp at he
end
end Go.AM
