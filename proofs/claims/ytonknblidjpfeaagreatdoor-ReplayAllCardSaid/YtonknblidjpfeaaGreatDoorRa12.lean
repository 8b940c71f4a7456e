/- Part 12 of the proof: the abstract machine, what the functions compute, and plain laws over that. -/
import Derived.Test.YtonknblidjpfeaaGreatDoorRa11
import Derived.ProofKit
import Derived.LaidMore
import Derived.OpenShut
import Derived.Stop.Joined
import Derived.PinnedBridge
import Derived.Lib.LaidU8
import Derived.SevenTiedAt
import Derived.SizedLaws
import Derived.Lib.RuneCountTail
import Derived.Lib.MapLaws
set_option linter.all false
set_option linter.unusedSimpArgs false
set_option linter.unusedVariables false
set_option linter.unusedSectionVars false
namespace Go.AM
open Go Go.RowKit Go.ChangeShapes Go.WideShapes Go.ChangeAt Go.WideElems
mutual
def D.wf:D→Prop
 | .int k n=>k.min≤n∧n≤k.max
 | .str s=>s.size≤9223372036854775807
 | .agg ds=>D.wfs ds
 | .slice _ ds=>ds.length≤9223372036854775807∧D.wfs ds
 | .iface _ x=>D.wf x
 | .tup ds=>D.wfs ds
 | _=>True
def D.wfs:List D→Prop
 | []=>True
 | d::ds=>D.wf d∧D.wfs ds
end
def K.dat (ty:Nat→K):Nat→K→Bool
 | _,.bool=>true
 | _,.int _=>true
 | _,.str=>true
 | n+1,.struct fs=>!fs.isEmpty&&fs.all fun f=>K.dat ty n (ty f)
 | n+1,.array m e=>decide (0<m)&&K.dat ty n (ty e)
 | n+1,.slice e=>K.dat ty n (ty e)
 | _,_=>false
section
variable {P:Program} {ty:Nat→K} {H:Type} {enc:TypeId×Value→H} {w:World} {sp:Nat→Bool} {held:Bool}
theorem wfs_of:∀{ds:List D},(∀d∈ds,D.wf d)→D.wfs ds
 | [],_=>by simp[D.wfs]
 | d::ds,h=>by simp only[D.wfs];exact⟨h d (by simp),wfs_of fun x hx=>h x (by simp[hx])⟩
theorem wfs_mem:∀{ds:List D},D.wfs ds→∀d∈ds,D.wf d
 | [],_,_,h=>by simp at h
 | a::ds,h,d,hd=>by
  simp only[D.wfs] at h
  rcases List.mem_cons.1 hd with rfl | hd
  ·exact h.1
  ·exact wfs_mem h.2 d hd
theorem reps_of {M:Mem}:∀(n:Nat) (κ:Nat→K) (part:Nat→List Value),(∀i,i<n→∃x v,v.cells.toList=part i∧Rep ty M x (κ i) v∧D.wf x) →
  ∃ds,Reps ty M ds ((List.range n).map κ) ((List.range n).map part).flatten∧D.wfs ds∧ds.length=n
 | 0,κ,part,h=>⟨[],by simp[Reps],by simp[D.wfs],rfl⟩
 | n+1,κ,part,h=>by
  obtain⟨ds,h1,h2,h3⟩:=reps_of n κ part (fun i hi=>h i (by omega))
  obtain⟨x,v,e,hr,hw⟩:=h n (by omega)
  refine⟨ds++[x],?_,?_,by simp[h3]⟩
  ·rw[List.range_succ,List.map_append,List.map_append,List.flatten_append]
   refine h1.append ?_
   simp only[List.map_cons,List.map_nil,List.flatten_cons,List.flatten_nil,List.append_nil,←e]
   exact Reps.one hr
  ·refine wfs_of fun d hd=>?_
   rcases List.mem_append.1 hd with hd | hd
   ·exact wfs_mem h2 d hd
   ·simp at hd;subst hd;exact hw
theorem chop (n k:Nat) (cs:List Value) (h:cs.length=n*k):((List.range n).map fun i=>(cs.drop (i*k)).take k).flatten=cs:=by
 induction n generalizing cs with
 | zero=>simp at h;simp[h]
 | succ n ih=>
  rw[List.range_succ_eq_map]
  simp only[List.map_cons,List.map_map,List.flatten_cons]
  have h2:(List.map ((fun i=>(cs.drop (i*k)).take k)∘Nat.succ) (List.range n))=(List.range n).map fun i=>((cs.drop k).drop (i*k)).take k:=by
   apply List.map_congr_left
   intro i _
   simp only[Function.comp,List.drop_drop]
   congr 2
   rw[Nat.succ_mul];omega
  rw[h2,ih (cs.drop k) (by rw[List.length_drop,h,Nat.succ_mul];omega)]
  simp
theorem chopF {fields:Array Field} {P:Program} (cs:List Value) (ho:∀(j:Nat) (f:Field),fields[j]? = some f→f.offset=kOff P.cellsOf (.struct (fields.toList.map (·.type))) j)
  (hl:cs.length=((fields.toList.map (·.type)).map P.cellsOf).sum) :
  ((List.range fields.size).map fun i=>match fields[i]? with | some f=>(cs.drop f.offset).take (P.cellsOf f.type) | none=>[]).flatten=cs:=by
 have key:∀n,n≤fields.size→((List.range n).map fun i=>match fields[i]? with | some f=>(cs.drop f.offset).take (P.cellsOf f.type) | none=>[]).flatten=cs.take ((((fields.toList.map (·.type)).take n).map P.cellsOf).sum):=by
  intro n
  induction n with
  | zero=>intro _;simp
  | succ n ih=>
   intro hn
   rw[List.range_succ,List.map_append,List.flatten_append,ih (by omega)]
   have hf:fields[n]? = some fields[n]:=by simp[show n<fields.size by omega]
   simp only[List.map_cons,List.map_nil,List.flatten_cons,List.flatten_nil,List.append_nil,hf]
   have h1:=ho n _ hf
   simp only[kOff] at h1
   have h2:(fields.toList.map (·.type)).take (n+1)=(fields.toList.map (·.type)).take n++[fields[n].type]:=by
    rw[List.take_succ_eq_append_getElem (by simp;omega)]
    simp
   rw[h2,List.map_append,List.sum_append,h1,List.take_add]
   simp
 rw[key _ (Nat.le_refl _),List.take_of_length_le]
 rw[hl,List.take_of_length_le (by simp)]
 exact Nat.le_refl _
theorem spot_none {a:Addr} {v:Value} (h:w.cell? a=some v):a.spot=none:=by
 unfold World.cell? at h
 split at h
 ·split at h
  ·simp at h
  ·rename_i hs;simpa using hs
 ·simp at h
theorem mapM_get {α:Type}:∀{l:List Nat} {g:Nat→Option α} {ys:List α},l.mapM g=some ys→∀(i:Nat) (y:α),ys[i]? = some y→∃n,l[i]? = some n∧g n=some y
 | [],g,ys,h,i,y,hy=>by simp at h;subst h;simp at hy
 | a::l,g,ys,h,i,y,hy=>by
  simp only[List.mapM_cons,Option.bind_eq_bind,Option.bind_eq_some_iff,Option.pure_def,Option.some.injEq] at h
  obtain⟨b,hb,rest,hr,rfl⟩:=h
  cases i with
  | zero=>simp at hy;subst hy;exact⟨a,rfl,hb⟩
  | succ i=>simpa using mapM_get hr i y (by simpa using hy)
theorem mapM_len {α:Type}:∀{l:List Nat} {g:Nat→Option α} {ys:List α},l.mapM g=some ys→ys.length=l.length
 | [],g,ys,h=>by simp at h;subst h;rfl
 | a::l,g,ys,h=>by
  simp only[List.mapM_cons,Option.bind_eq_bind,Option.bind_eq_some_iff,Option.pure_def,Option.some.injEq] at h
  obtain⟨b,hb,rest,hr,rfl⟩:=h
  simp[mapM_len hr]
theorem dat_ne {n t:Nat} (h:K.dat ty n (ty t)=true):ty t≠.bad:=by intro hb;rw[hb] at h;cases n<;>simp[K.dat] at h
theorem dat_pos (T:TyOk P ty):∀(n t:Nat),K.dat ty n (ty t)=true→0<P.cellsOf t
 | n,t,h=>by
  rw[T.szOk t (dat_ne h)]
  cases hk:ty t with
  | struct fs=>
   rw[hk] at h
   cases n with
   | zero=>simp[K.dat] at h
   | succ n=>
    simp only[K.dat,Bool.and_eq_true,List.all_eq_true] at h
    cases fs with
    | nil=>simp at h
    | cons f fs=>
     have:=dat_pos T n f (h.2 f (by simp))
     simp only[ksz,List.map_cons,List.sum_cons]
     omega
  | array m e=>
   rw[hk] at h
   cases n with
   | zero=>simp[K.dat] at h
   | succ n=>
    simp only[K.dat,Bool.and_eq_true,decide_eq_true_eq] at h
    have:=dat_pos T n e h.2
    simp only[ksz]
    exact Nat.mul_pos h.1 this
  | _=>simp[ksz]
theorem trod_rep (T:TyOk P ty):∀(fuel t:Nat) (cs:List Value) (x:DataW H×List MemPlace) (n:Nat),DataW.trod enc P w 0 sp held fuel t cs=some x→K.dat ty n (ty t)=true →
  ∃y v,v.cells.toList=cs∧Rep ty (memOf w []) y (ty t) v∧D.wf y
 | 0,t,cs,x,n,h,_=>by simp[DataW.trod] at h
 | fuel+1,t,cs,x,n,h,hd=>by
  have hne:ty t≠.bad:=by intro hb;rw[hb] at hd;cases n<;>simp[K.dat] at hd
  obtain⟨i,hi⟩:=T t hne
  have hdesc:=hi.desc
  cases hk:ty t with
  | bool=>
   rw[hk] at hdesc
   simp only[descOk] at hdesc
   obtain⟨b,rfl,rfl⟩:=DataW.trod_bool hdesc h
   exact⟨.bool b,.bool b,by simp[Value.cells],by simp[Rep],by simp[D.wf]⟩
  | int k=>
   rw[hk] at hdesc
   simp only[descOk] at hdesc
   obtain⟨m,rfl,rfl,hw⟩:=DataW.trod_int hdesc h
   refine⟨.int k m,.int k m,by simp[Value.cells],by simp[Rep],?_⟩
   simpa[Lit.wf,D.wf] using hw
  | str=>
   rw[hk] at hdesc
   simp only[descOk] at hdesc
   obtain⟨s,rfl,rfl,hs⟩:=DataW.trod_string hdesc h
   exact⟨.str s,.string s,by simp[Value.cells],by simp[Rep],by simpa[D.wf,Go.maxLen] using hs⟩
  | struct fs=>
   rw[hk] at hdesc
   simp only[descOk] at hdesc
   obtain⟨fields,h1,h2,h3⟩:=hdesc
   obtain⟨xs,m,hm,rfl,hl,hxs,hE⟩:=DataW.trod_struct h1 h
   obtain rfl:m=fuel:=by omega
   cases n with
   | zero=>rw[hk] at hd;simp[K.dat] at hd
   | succ n=>
   rw[hk] at hd
   simp only[K.dat,Bool.and_eq_true,List.all_eq_true] at hd
   have hsz:P.cellsOf t=(fs.map P.cellsOf).sum:=by rw[T.szOk t hne,hk];rfl
   obtain⟨ds,r1,r2,r3⟩:=reps_of (ty:=ty) (M:=memOf w []) fields.size (fun i=>match fields[i]? with | some f=>ty f.type | none=>.bad) (fun i=>match fields[i]? with | some f=>(cs.drop f.offset).take (P.cellsOf f.type) | none=>[]) (fun i hi=>by
    have hf:fields[i]? = some fields[i]:=by simp[hi]
    simp only[hf]
    have he:=hE i _ hf
    have hx:xs[i]? = some xs[i]:=by simp[show i<xs.length by omega]
    rw[hx] at he
    refine trod_rep T m _ _ _ n he (hd.2 _ ?_)
    rw[←h2]
    exact List.mem_map.2 ⟨fields[i],by simp,rfl⟩)
   rw[chopF cs (fun j f hj=>by have:=(h3 j f hj).1;rw[h2];exact this) (by rw[hl,hsz,h2])] at r1
   refine⟨.agg ds,.agg cs.toArray,by simp[Value.cells],?_,by simpa[D.wf] using r2⟩
   simp only[Rep,K.isAgg]
   refine⟨trivial,cs.toArray,rfl,?_⟩
   have hks:(List.range fields.size).map (fun i=>match fields[i]? with | some f=>ty f.type | none=>.bad)=(K.struct fs).kids ty:=by
    simp only[K.kids,←h2,List.map_map]
    apply List.ext_getElem
    ·simp
    ·intro i h1 h2
     simp at h1
     simp[h1]
   rw[hks] at r1
   simpa using r1
  | array m e=>
   rw[hk] at hdesc
   simp only[descOk] at hdesc
   obtain⟨xs,m',hm,rfl,hl,hxs,hE⟩:=DataW.trod_array hdesc.1 h
   obtain rfl:m'=fuel:=by omega
   cases n with
   | zero=>rw[hk] at hd;simp[K.dat] at hd
   | succ n=>
   rw[hk] at hd
   simp only[K.dat,Bool.and_eq_true] at hd
   have hsz:P.cellsOf t=m*P.cellsOf e:=by rw[T.szOk t hne,hk];rfl
   obtain⟨ds,r1,r2,r3⟩:=reps_of (ty:=ty) (M:=memOf w []) m (fun _=>ty e) (fun i=>(cs.drop (i*P.cellsOf e)).take (P.cellsOf e)) (fun i hi=>by
    have he:=hE i hi
    have hx:xs[i]? = some xs[i]:=by simp[show i<xs.length by omega]
    rw[hx] at he
    exact trod_rep T m' _ _ _ n he hd.2)
   rw[chop m _ cs (by rw[hl,hsz])] at r1
   refine⟨.agg ds,.agg cs.toArray,by simp[Value.cells],?_,by simpa[D.wf] using r2⟩
   simp only[Rep,K.isAgg]
   refine⟨trivial,cs.toArray,rfl,?_⟩
   simp only[K.kids]
   have hrep:(List.range m).map (fun _=>ty e)=List.replicate m (ty e):=by
    apply List.ext_getElem<;>simp
   rw[hrep] at r1
   simpa using r1
  | slice e=>
   rw[hk] at hdesc
   simp only[descOk] at hdesc
   cases n with
   | zero=>rw[hk] at hd;simp[K.dat] at hd
   | succ n=>
   rw[hk] at hd
   simp only[K.dat] at hd
   rcases DataW.trod_slice hdesc.1 h with ⟨rfl,rfl⟩ | ⟨a,len,cap,elems,rest,m',hm,rfl,rfl,_,hlc,hcm,hel,hE,_,_⟩
   ·exact⟨.slice false [],.slice none 0 0,by simp[Value.cells],by simp only[Rep];exact⟨e,none,0,rfl,rfl,Nat.zero_le _,rfl,fun _=>rfl,.inl trivial⟩,by simp[D.wf,D.wfs]⟩
   ·obtain rfl:m'=fuel:=by omega
    have hcell:∀i,i<len→∃c1,w.cells? 0 (a.add (i*P.cellsOf e)) (P.cellsOf e)=some c1∧∃y v,v.cells.toList=c1∧Rep ty (memOf w []) y (ty e) v∧D.wf y:=by
     intro i hi
     have he:=hE i hi
     have hx:elems[i]? = some elems[i]:=by simp[show i<elems.length by omega]
     rw[hx] at he
     simp only[Option.bind_eq_some_iff] at he
     obtain⟨c1,hc1,he⟩:=he
     exact⟨c1,hc1,trod_rep T m' _ _ _ n he hd⟩
    obtain⟨ds,r1,r2,r3⟩:=reps_of (ty:=ty) (M:=memOf w []) len (fun _=>ty e) (fun i=>(w.cells? 0 (a.add (i*P.cellsOf e)) (P.cellsOf e)).getD []) (fun i hi=>by
     obtain⟨c1,h1,y,v,h2,h3,h4⟩:=hcell i hi
     exact⟨y,v,by rw[h1];exact h2,h3,h4⟩)
    have hrep:(List.range len).map (fun _=>ty e)=List.replicate ds.length (ty e):=by
     rw[r3];apply List.ext_getElem<;>simp
    rw[hrep] at r1
    refine⟨.slice true ds,.slice (some a) len cap,by simp[Value.cells],?_,by simp only[D.wf];exact⟨by rw[r3];simp[Go.maxLen] at hcm;omega,r2⟩⟩
    simp only[Rep,r3]
    refine⟨e,some a,cap,rfl,rfl,hlc,rfl,by simp,?_⟩
    by_cases hl0:len=0
    ·exact .inl (List.eq_nil_of_length_eq_zero (by omega))
    ·right
     have hcsz:0<P.cellsOf e∨P.cellsOf e=0:=by omega
     refine⟨a,_,rfl,?_,by rw[r3] at r1;exact r1⟩
     have hlen:∀i,i<len→((w.cells? 0 (a.add (i*P.cellsOf e)) (P.cellsOf e)).getD []).length=P.cellsOf e:=by
      intro i hi
      obtain⟨c1,h1,_⟩:=hcell i hi
      rw[h1]
      simp only[World.cells?,Nat.zero_le,if_true] at h1
      simpa using mapM_len h1
     have hcells:∀i,i<len→∀j (v:Value),((w.cells? 0 (a.add (i*P.cellsOf e)) (P.cellsOf e)).getD [])[j]? = some v→w.cell? ((a.add (i*P.cellsOf e)).add j)=some v:=by
      intro i hi j v hv
      obtain⟨c1,h1,_⟩:=hcell i hi
      rw[h1] at hv
      simp only[World.cells?,Nat.zero_le,if_true] at h1
      obtain⟨k,hk1,hk2⟩:=mapM_get h1 j v hv
      have:k=j:=by
       have:=List.getElem?_eq_some_iff.1 hk1
       obtain⟨_,h⟩:=this
       simpa using h.symm
      rw[←this];exact hk2
     have hflat:∀(m:Nat) (g:Nat→List Value),(∀i,i<m→(g i).length=P.cellsOf e)→∀(j:Nat) (v:Value),(((List.range m).map g).flatten)[j]? = some v→∃i r,i<m∧r<P.cellsOf e∧j=i*P.cellsOf e+r∧(g i)[r]? = some v:=by
      intro m g
      induction m with
      | zero=>intro _ j v hv;simp at hv
      | succ m ih=>
       intro hg j v hv
       have hl:(((List.range m).map g).flatten).length=m*P.cellsOf e:=by
        rw[List.length_flatten,List.map_map]
        have:List.map (List.length∘g) (List.range m)=List.replicate m (P.cellsOf e):=by
         apply List.ext_getElem
         ·simp
         ·intro i h1 h2;simp at h1;simp[hg i (by omega)]
        rw[this];simp
       rw[List.range_succ,List.map_append,List.flatten_append] at hv
       by_cases hj:j<m*P.cellsOf e
       ·rw[List.getElem?_append_left (by omega)] at hv
        obtain⟨i,r,h1,h2,h3,h4⟩:=ih (fun i hi=>hg i (by omega)) j v hv
        exact⟨i,r,by omega,h2,h3,h4⟩
       ·rw[List.getElem?_append_right (by omega),hl] at hv
        simp only[List.map_cons,List.map_nil,List.flatten_cons,List.flatten_nil,List.append_nil] at hv
        have hlt:=(List.getElem?_eq_some_iff.1 hv).1
        rw[hg m (by omega)] at hlt
        exact⟨m,j-m*P.cellsOf e,by omega,hlt,by omega,hv⟩
     have hat:∀(j:Nat) (v:Value),(((List.range len).map fun i=>(w.cells? 0 (a.add (i*P.cellsOf e)) (P.cellsOf e)).getD []).flatten)[j]? = some v→w.cell? (a.add j)=some v:=by
      intro j v hv
      obtain⟨i,r,h1,h2,rfl,h4⟩:=hflat len _ hlen j v hv
      have:=hcells i h1 r v h4
      have hadd:(a.add (i*P.cellsOf e)).add r=a.add (i*P.cellsOf e+r):=by
       cases a
       simp only[Addr.add]
       split<;>split<;>(try split)<;>simp_all<;>omega
      rw[←hadd];exact this
     have h0:=dat_pos T n e hd
     have hspot:a.spot=none:=by
      have h1:=hlen 0 (by omega)
      simp only[Nat.zero_mul] at h1
      have h2:=hcells 0 (by omega) 0
      simp only[Nat.zero_mul] at h2
      have h3:=h2 _ (List.getElem?_eq_getElem (by omega))
      have h4:(a.add 0).add 0=a:=by simp[Addr.add]
      rw[h4] at h3
      exact spot_none h3
     refine⟨hspot,fun j v hv=>?_⟩
     have:=hat j v hv
     rw[addr_add hspot] at this
     simpa[memOf] using this
  | map a e=>rw[hk] at hd;cases n<;>simp[K.dat] at hd
  | iface m=>rw[hk] at hd;cases n<;>simp[K.dat] at hd
  | ptr e=>rw[hk] at hd;cases n<;>simp[K.dat] at hd
  | func=>rw[hk] at hd;cases n<;>simp[K.dat] at hd
  | bad=>exact absurd hk hne
theorem agg_cells {v v':Value} {t:Nat} {κ:K} {M:Mem} {y:D} (T:TyOk P ty) (hk:ty t=κ) {r:Reach} {base:Nat} {W:World} (hok:Value.okWide P W r base t v) (hd:K.dat ty 20 κ=true) (hc:v'.cells.toList=v.cells.toList) (hr:Rep ty M y κ v'):v'=v:=by
 have hne:ty t≠.bad:=dat_ne (n:=20) (hk▸hd)
 obtain⟨i,hi⟩:=T t hne
 have hdesc:=hi.desc
 rw[hk] at hdesc
 have hca:v'.cells=v.cells:=Array.toList_inj.1 hc
 cases κ with
 | bool=>
  simp only[descOk] at hdesc
  cases v<;>simp[Value.okWide,Cell.okWide,Cell.ok,hdesc] at hok
  have:=rep_bool hr
  subst this
  simpa[Value.cells] using hc
 | int k=>
  simp only[descOk] at hdesc
  cases v<;>simp[Value.okWide,Cell.okWide,Cell.ok,hdesc] at hok
  have:=rep_int hr
  subst this
  simpa[Value.cells] using hc
 | str=>
  simp only[descOk] at hdesc
  cases v<;>simp[Value.okWide,Cell.okWide,Cell.ok,hdesc] at hok
  have:=rep_str hr
  subst this
  simpa[Value.cells] using hc
 | struct fs=>
  simp only[descOk] at hdesc
  obtain⟨fields,h1,_⟩:=hdesc
  simp only[Value.okWide,h1] at hok
  obtain⟨cs,rfl,_⟩:=hok
  obtain⟨ds,cs',_,rfl,_⟩:=Rep.isAgg hr rfl
  simp[Value.cells] at hca
  rw[hca]
 | array n e=>
  simp only[descOk] at hdesc
  simp only[Value.okWide,hdesc.1] at hok
  obtain⟨cs,rfl,_⟩:=hok
  obtain⟨ds,cs',_,rfl,_⟩:=Rep.isAgg hr rfl
  simp[Value.cells] at hca
  rw[hca]
 | slice e=>
  simp only[descOk] at hdesc
  have hv:∃a l c,v = .slice a l c:=by
   cases v<;>simp[Value.okWide,Cell.okWide,Cell.ok,hdesc] at hok
   exact⟨_,_,_,rfl⟩
  obtain⟨a,l,c,rfl⟩:=hv
  have hs:=(Rep.scal ty _ _ _ hr).1 rfl
  rw[cells_scal hs] at hca
  simpa[Value.cells] using hca
 | map a e=>simp[K.dat] at hd
 | iface m=>simp[K.dat] at hd
 | ptr e=>simp[K.dat] at hd
 | func=>simp[K.dat] at hd
 | bad=>simp[K.dat] at hd
theorem trodAll_each (T:TyOk P ty) {W:World} {r:Reach} {base:Nat}:∀(ts:List Nat) (vs:List Value) (ds:List (DataW H)) (ps:List MemPlace),DataW.TrodAll enc P w 0 sp held ts vs ds ps→(∀t∈ts,K.dat ty 20 (ty t)=true) →
  (∀(j:Nat) t v,ts[j]? = some t→vs[j]? = some v→Value.okWide P W r base t v)→∃xs,Each ty (memOf w []) xs (ts.map ty) vs∧D.wfs xs
 | [],vs,ds,ps,h,_,_=>by
  obtain⟨rfl,_,_⟩:=trodAll_nil h
  exact⟨[],by simp[Each],by simp[D.wfs]⟩
 | t::ts,vs,ds,ps,h,hd,hok=>by
  obtain⟨v,vs',d,ds',p,q,rfl,rfl,rfl,⟨fuel,h1⟩,h2⟩:=trodAll_cons h
  obtain⟨y,v',e1,e2,e3⟩:=trod_rep T fuel t _ _ 20 h1 (hd t (by simp))
  obtain rfl:=agg_cells T rfl (hok 0 t v rfl rfl) (hd t (by simp)) e1 e2
  obtain⟨xs,g1,g2⟩:=trodAll_each T ts vs' ds' q h2 (fun t ht=>hd t (by simp[ht])) (fun j t v hj hv=>hok (j+1) t v (by simpa using hj) (by simpa using hv))
  exact⟨y::xs,by simp only[List.map_cons,Each];exact⟨_,_,_,_,rfl,rfl,e2,g1⟩,by simp only[D.wfs];exact⟨e3,g2⟩⟩
theorem each_hass {M:Mem}:∀{ds:List D} {κs:List K} {xs:List Value},Each ty M ds κs xs→D.hass ty ds κs
 | [],_,_,h=>by simp only[Each] at h;simp only[D.hass];exact h.1
 | d::ds,_,_,h=>by
  simp only[Each] at h
  obtain⟨κ,κs',x,rest,rfl,rfl,h1,h2⟩:=h
  simp only[D.hass]
  exact⟨κ,κs',rfl,rep_has _ _ _ h1,each_hass h2⟩
theorem trodAll_stays {P:Program} (hl:laidOutB P=true) {W W':World} (hb:Below W.heap.size W W'):∀(ts:List Nat) (vs:List Value) (ds:List (DataW H)) (ps:List MemPlace),DataW.TrodAll enc P W 0 (fun _=>true) true ts vs ds ps →
  (∀t∈ts,P.readableRec t=true∧t<P.types.size)→(∀x∈ps,x.block<W.heap.size)→∀sp:Nat→Bool,(∀x∈ps,sp x.block=true)→DataW.TrodAll enc P W' 0 sp true ts vs ds ps
 | [],vs,ds,ps,h,_,_,sp,_=>by
  obtain⟨rfl,rfl,rfl⟩:=trodAll_nil h
  rfl
 | t::ts,vs,ds,ps,h,hr,hlt,sp,hsp=>by
  obtain⟨v,vs',d,ds',p,q,rfl,rfl,rfl,h1,h2⟩:=trodAll_cons h
  exact⟨p,q,WideElems.Trod_stays hl (hr t (by simp)).1 (hr t (by simp)).2 h1 (fun x hx=>hb.same (hlt x (by simp[hx]))) (fun x hx=>hsp x (by simp[hx])),
   trodAll_stays hl hb ts vs' ds' q h2 (fun t ht=>hr t (by simp[ht])) (fun x hx=>hlt x (by simp[hx])) sp (fun x hx=>hsp x (by simp[hx])),rfl⟩
theorem post_below {f:Func} {s:ChangeSpec} {apart fresh handsOn again:Bool} {W W':World} {args:Array Value} {v:Value} {ds gs:List (DataW H)} {before pa pv:List MemPlace}
  (hW:DataW.Whole enc P f.params.toList s.vars apart W args.toList ds gs before)
  (hres:∀(b:Nat) (sp:Nat→Bool) (hd:Bool),DataW.TrodAll enc P W' b sp hd f.resultTypes.toList (v.resultList f.resultTypes.size) (s.fn H (ds++gs)).results [])
  (hargs:∀sp:Nat→Bool,(∀p∈before,sp p.block=true)→DataW.TrodAll enc P W' 0 sp true f.params.toList args.toList (s.fn H (ds++gs)).args pa)
  (hvars:∀sp:Nat→Bool,(∀p∈before,sp p.block=true)→DataW.TrodVars enc P W' sp s.vars (s.fn H (ds++gs)).vars pv)
  (hps:before=pa++pv) (hb:Below W.heap.size W W')
  (hok:∀(j:Nat) (t:TypeId) (r:Value),f.resultTypes[j]? = some t→(v.resultList f.resultTypes.size)[j]? = some r→Value.okWide P W' .any 0 t r) :
  s.post enc P f apart fresh handsOn again W args v W':=by
 have hlt:∀p∈before,p.block<W.heap.size:=fun p hp=>hW.lt p hp
 have hold:∀p∈before,(fun b=>decide (b<W.heap.size)) p.block=true:=fun p hp=>by simpa using hlt p hp
 refine⟨ds,gs,before,[],pa,pv,hW,hres _ _ _,hargs _ hold,hvars _ hold,World.keptBut_mono (fun p hp=>⟨hp,?_⟩) (hb.frame (·∈before)),fun _=>?_⟩
 ·rw[hps,List.mem_append] at hp
  exact Or.inr hp
 ·obtain⟨_,_,_,_,_,hz,hn⟩:=hW
  refine⟨hok,_,_,([]++pa)++pv,⟨[]++pa,pv,trodAll_append (hargs _ (fun _ _=>rfl)) (hres _ _ _),hvars _ (fun _ _=>rfl),rfl,?_,?_⟩,?_⟩
  ·intro b off hp
   have hin:MemPlace.cell b off∈before:=by rw[hps];simpa using hp
   rw[hb.frozen (hlt _ hin)]
   exact hz b off hin
  ·intro ha
   have:=hn ha
   rw[hps] at this
   simpa using this
  ·intro p hp _
   rw[hps]
   simpa using hp
theorem law_calls (T:TyOk P ty) {I:World→Prop} {f:Nat} {fn:Func} {c:Con} (hc:Contract P ty I f fn c) (hp:c.plain=true) (hl:laidOutB P=true)
  (hts:fn.params.toList.all (fun t=>K.dat ty 20 (ty t)&&P.readableRec t&&decide (t<P.types.size))=true) {tb:Nat} (hr:fn.resultTypes = #[tb]) (hb:ty tb = .bool)
  (hrun:∀ds,D.hass ty ds (fn.params.toList.map ty)→D.wfs ds→c.run ds=some (.bool true)) {s:ChangeSpec} (hv:s.vars=[])
  (hs:∀ds:List (DataW H),ds.length=fn.params.toList.length→(s.fn H (ds++[])).results=[.lit (.bool true)]∧(s.fn H (ds++[])).args=ds∧(s.fn H (ds++[])).vars=[])
  {W:World} {base:Nat} {args:Array Value} {ds gs:List (DataW H)} {before:List MemPlace} {apart fresh handsOn again:Bool} (hI:I W)
  (hval:∀(j:Nat) t v,fn.params[j]? = some t→args[j]? = some v→Value.okWide P W .any base t v)
  (hW:DataW.Whole enc P fn.params.toList s.vars apart W args.toList ds gs before) :
  Calls P f args W fun e W'=>∃v,e = .returned v∧s.post enc P fn apart fresh handsOn again W args v W':=by
 have hW':=hW
 obtain⟨p,q,hA,hV,rfl,hfz,hnd⟩:=hW
 rw[hv] at hV
 obtain⟨rfl,rfl⟩:=trodVars_none hV
 simp only[List.all_eq_true,Bool.and_eq_true,decide_eq_true_eq] at hts
 obtain⟨xs,h1,h2⟩:=trodAll_each (W:=W) (r:=.any) (base:=base) T _ _ _ _ hA (fun t ht=>(hts t ht).1.1) (fun j t v hj hv=>hval j t v (by simpa using hj) (by simpa using hv))
 have hlen:ds.length=fn.params.toList.length:=by
  clear hW' hs hval h1 hrun hts hr hc hfz hnd
  generalize fn.params.toList=ts at hA
  generalize args.toList=vs at hA
  induction ts generalizing vs ds p with
  | nil=>obtain⟨_,rfl,_⟩:=trodAll_nil hA;rfl
  | cons t ts ih=>
   obtain⟨v,vs',d,ds',p,q,rfl,rfl,rfl,_,h2⟩:=trodAll_cons hA
   simp[ih _ _ h2]
 obtain⟨s1,s2,s3⟩:=hs ds hlen
 have hrun':=hrun xs (each_hass h1) h2
 have hcall:=hc [] W xs args.toList (.bool true) hI (by simp) h1 hrun'
 refine hcall.mono ?_
 rintro e W' ⟨v,rfl,hbl,hres⟩
 rw[if_pos hp] at hres
 have hres:=hres (memOf W' [])
 simp only[ResRep,hr,hb,Rep] at hres
 obtain⟨_,rfl⟩:=hres
 obtain⟨i,hi⟩:=T tb (by rw[hb];simp)
 have hdesc:=hi.desc
 rw[hb] at hdesc
 simp only[descOk] at hdesc
 refine⟨_,rfl,post_below (pa:=p) (pv:=[]) hW' ?_ ?_ ?_ rfl hbl ?_⟩
 ·intro b sp hd
  rw[s1,hr]
  exact trodAll_mk1 (shut_bool hdesc _)
 ·intro sp hsp
  rw[s2]
  refine trodAll_stays hl hbl _ _ _ _ hA (fun t ht=>⟨(hts t ht).1.2,(hts t ht).2⟩) (fun x hx=>hW'.lt x (by simp[hx])) sp (fun x hx=>hsp x (by simp[hx]))
 ·intro sp _
  rw[hv,s3]
  rfl
 ·intro j t r hj hr'
  rw[hr] at hj hr'
  cases j with
  | zero=>
   simp at hj
   subst hj
   simp[Value.resultList] at hr'
   subst hr'
   exact okWide_bool_mk hdesc _
  | succ j=>simp at hj
end
end Go.AM
namespace Go.AM
open Go
theorem ct {c:Bool} {a b R:Option D} (h:c=true) (k:a=R):cond c a b=R:=by subst h;exact k
theorem cf {c:Bool} {a b R:Option D} (h:c=false) (k:b=R):cond c a b=R:=by subst h;exact k
theorem bdS {o:Option D} {x:D} {f:D→Option D} {R:Option D} (h:o=some x) (k:f x=R):bd o f=R:=by subst h;exact k
theorem bdBS {x:D} {g:Bool} {f:Bool→Option D} {R:Option D} (h:x = .bool g) (k:f g=R):bdB x f=R:=by subst h;exact k
theorem goS_rule {S X:Type} {st:S→(S→Option D)→(X→Option D)→Option D} {K:X→Option D} (Inv:S→Prop) (μ:S→Nat) (Post:Option D→Prop)
  (h:∀s rec,Inv s→(∀s',Inv s'→μ s'<μ s→Post (rec s'))→Post (st s rec K)):∀N s,Inv s→μ s≤N→Post (goS st N s K)
 | 0,s,hi,hm=>by
  simp only[goS]
  exact h s _ hi (fun s' _ h'=>by omega)
 | N+1,s,hi,hm=>by
  simp only[goS]
  exact h s _ hi (fun s' hi' h'=>goS_rule Inv μ Post h N s' hi' (by omega))
theorem ad64 {a b:Int} (h1:-9223372036854775808≤a+b) (h2:a+b≤9223372036854775807):ad .i64 a b=a+b:=by
 have h:∀n:Int,-9223372036854775808≤n→n≤9223372036854775807→IntKind.i64.wrap n=n:=by
  intro n h1 h2
  simp[IntKind.wrap,IntKind.signed,IntKind.bits]
  omega
 exact h _ h1 h2
theorem sb64 {a b:Int} (h1:-9223372036854775808≤a-b) (h2:a-b≤9223372036854775807):sb .i64 a b=a-b:=by
 have:=ad64 (a:=a) (b:=-b) (by omega) (by omega)
 simp only[ad,sb] at this ⊢
 rw[show a-b=a+-b by omega];exact this
@[simp] theorem ltI_t {a b:Int}:(ltI a b=true)=(a<b):=by simp[ltI]
@[simp] theorem ltI_f {a b:Int}:(ltI a b=false)=(b≤a):=by simp[ltI]
@[simp] theorem leI_t {a b:Int}:(leI a b=true)=(a≤b):=by simp[leI]
@[simp] theorem leI_f {a b:Int}:(leI a b=false)=(b<a):=by simp[leI]
@[simp] theorem gtI_t {a b:Int}:(gtI a b=true)=(b<a):=by simp[gtI]
@[simp] theorem gtI_f {a b:Int}:(gtI a b=false)=(a≤b):=by simp[gtI]
@[simp] theorem geI_t {a b:Int}:(geI a b=true)=(b≤a):=by simp[geI]
@[simp] theorem geI_f {a b:Int}:(geI a b=false)=(a<b):=by simp[geI]
@[simp] theorem eqI_t {a b:Int}:(eqI a b=true)=(a=b):=by simp[eqI]
@[simp] theorem eqI_f {a b:Int}:(eqI a b=false)=(a≠b):=by simp[eqI]
@[simp] theorem neI_t {a b:Int}:(neI a b=true)=(a≠b):=by simp[neI]
@[simp] theorem neI_f {a b:Int}:(neI a b=false)=(a=b):=by simp[neI]
@[simp] theorem inb_t {a:Int} {n:Nat}:(inb a n=true)=(0≤a∧a<(n:Int)):=by simp[inb]
@[simp] theorem leN_t {a b:Nat}:(leN a b=true)=(a≤b):=by simp[leN]
@[simp] theorem eqN_t {a b:Nat}:(eqN a b=true)=(a=b):=by simp[eqN]
@[simp] theorem mx_t {a:Nat}:(mx a=true)=(a≤1073741824):=by simp only[mx,maxLen];exact propext decide_eq_true_iff
@[simp] theorem nI_eq {n:Nat}:nI n=(n:Int):=rfl
theorem ix_eq {l:List D} {n:Nat} (h:n<l.length):ix l n=l[n]:=by simp[ix,List.getD_eq_getElem?_getD,h]
theorem ix_map {α:Type} {l:List α} {f:α→D} {n:Nat} (h:n<l.length):ix (l.map f) n=f l[n]:=by rw[ix_eq (by simpa using h)];simp
@[simp] theorem eqS_t {a b:ByteArray}:(eqS a b=true)=(a=b):=by
 simp only[eqS,beq_iff_eq,eq_iff_iff]
 constructor
 ·intro h
  have h1:∀x:ByteArray,x.toList=x.data.toList:=fun x=>by
   rw[ByteArray.toList]
   have key:∀(n i:Nat) (r:List UInt8),x.size-i=n→i≤x.size→ByteArray.toList.loop x i r=r.reverse++x.data.toList.drop i:=by
    intro n
    induction n with
    | zero=>
     intro i r hn hi
     have:i=x.size:=by omega
     unfold ByteArray.toList.loop
     rw[if_neg (by omega),List.drop_of_length_le (by simp;omega)]
     simp
    | succ n ih=>
     intro i r hn hi
     unfold ByteArray.toList.loop
     have hlt:i<x.size:=by omega
     rw[if_pos hlt,ih (i+1) _ (by omega) (by omega)]
     have hd:x.data.toList.drop i=x.get! i::x.data.toList.drop (i+1):=by
      rw[List.drop_eq_getElem_cons (by simpa using hlt)]
      congr 1
      cases x;rename_i a
      simp only[ByteArray.get!]
      rw[Array.getElem!_eq_getD,Array.getD_eq_getD_getElem?]
      have:i<a.size:=hlt
      simp[this]
     rw[hd];simp
   have:=key x.size 0 [] (by omega) (by omega)
   simpa using this
  rw[h1,h1] at h
  cases a;cases b
  simp only[ByteArray.mk.injEq]
  exact Array.toList_inj.1 h
 ·rintro rfl;rfl
@[simp] theorem eqS_f {a b:ByteArray}:(eqS a b=false)=(a≠b):=by
 rw[←Bool.not_eq_true,eqS_t]
@[simp] theorem eqS_self {a:ByteArray}:eqS a a=true:=by rw[eqS_t]
@[simp] theorem at_agg (l:List D) (i:Nat):(D.agg l).at i=l.getD i .nilFunc:=rfl
@[simp] theorem at_tup (l:List D) (i:Nat):(D.tup l).at i=l.getD i .nilFunc:=rfl
@[simp] theorem i_int (k:IntKind) (n:Int):(D.int k n).i=n:=rfl
@[simp] theorem s_str (s:ByteArray):(D.str s).s=s:=rfl
@[simp] theorem b_bool (b:Bool):(D.bool b).b=b:=rfl
@[simp] theorem elems_slice (b:Bool) (l:List D):(D.slice b l).elems=l:=rfl
@[simp] theorem nn_slice (b:Bool) (l:List D):(D.slice b l).nn=b:=rfl
@[simp] theorem parts_agg (l:List D):(D.agg l).parts=l:=rfl
structure Ev where
 kind:Int
 id:Int
 name:ByteArray
 time:Int
 len:Int
 sum:List Int
def sumD (l:List Int):D:=.agg (l.map (D.int .u8))
def Ev.enc (e:Ev):D:=da [di e.kind,di e.id,dS e.name,di e.time,di e.len,sumD e.sum]
structure Fl where
 id:Int
 name:ByteArray
 data:ByteArray
 sealed:Bool
 until_:Int
 nn:Bool
 holds:List ByteArray
def Fl.enc (f:Fl):D:=da [di f.id,dS f.name,dS f.data,db f.sealed,di f.until_,dl f.nn (f.holds.map dS)]
structure En where
 file:Fl
 len:Int
 sum:List Int
def En.enc (x:En):D:=da [x.file.enc,di x.len,sumD x.sum]
structure Bk where
 nn:Bool
 es:List En
 last:Int
 floor:Int
def Bk.enc (b:Bk):D:=da [dl b.nn (b.es.map En.enc),di b.last,di b.floor]
def i64ok (n:Int):Prop:=-9223372036854775808≤n∧n≤9223372036854775807
structure Ev.ok (e:Ev):Prop where
 kind:i64ok e.kind
 id:i64ok e.id
 time:i64ok e.time
 len:i64ok e.len
 sum:e.sum.length=32
section
variable {ty:Nat→K}
theorem hass_struct {d:D} {fs:List Nat} (h:D.has ty d (.struct fs)):∃ds,d = .agg ds∧D.hass ty ds (fs.map ty):=by
 cases d with
 | agg ds=>simp only[D.has] at h;exact⟨ds,rfl,h.2⟩
 | slice nn ds=>simp only[D.has] at h;obtain⟨e,h,_⟩:=h;simp at h
 | iface t x=>simp only[D.has] at h;obtain⟨⟨m,h⟩,_⟩:=h;simp at h
 | bool b=>simp[D.has] at h
 | int k n=>simp[D.has] at h
 | str s=>simp[D.has] at h
 | tup l=>simp[D.has] at h
 | nilIface=>simp[D.has] at h
 | fn f=>simp[D.has] at h
 | nilFunc=>simp[D.has] at h
 | nilPtr=>simp[D.has] at h
 | nilMap=>simp[D.has] at h
theorem hass_array {d:D} {n e:Nat} (h:D.has ty d (.array n e)):∃ds,d = .agg ds∧D.hass ty ds (List.replicate n (ty e)):=by
 cases d with
 | agg ds=>simp only[D.has] at h;exact⟨ds,rfl,h.2⟩
 | slice nn ds=>simp only[D.has] at h;obtain⟨e,h,_⟩:=h;simp at h
 | iface t x=>simp only[D.has] at h;obtain⟨⟨m,h⟩,_⟩:=h;simp at h
 | bool b=>simp[D.has] at h
 | int k n=>simp[D.has] at h
 | str s=>simp[D.has] at h
 | tup l=>simp[D.has] at h
 | nilIface=>simp[D.has] at h
 | fn f=>simp[D.has] at h
 | nilFunc=>simp[D.has] at h
 | nilPtr=>simp[D.has] at h
 | nilMap=>simp[D.has] at h
theorem hass_slice {d:D} {e:Nat} (h:D.has ty d (.slice e)):∃nn ds,d = .slice nn ds∧D.hass ty ds (List.replicate ds.length (ty e))∧(nn=false→ds=[]):=by
 cases d with
 | slice nn ds=>simp only[D.has] at h;obtain⟨e',h1,h2,h3⟩:=h;simp at h1;subst h1;exact⟨nn,ds,rfl,h2,h3⟩
 | agg ds=>simp[D.has,K.isAgg] at h
 | iface t x=>simp only[D.has] at h;obtain⟨⟨m,h⟩,_⟩:=h;simp at h
 | bool b=>simp[D.has] at h
 | int k n=>simp[D.has] at h
 | str s=>simp[D.has] at h
 | tup l=>simp[D.has] at h
 | nilIface=>simp[D.has] at h
 | fn f=>simp[D.has] at h
 | nilFunc=>simp[D.has] at h
 | nilPtr=>simp[D.has] at h
 | nilMap=>simp[D.has] at h
theorem hass_ints {k:IntKind}:∀{ds:List D} {n:Nat},D.hass ty ds (List.replicate n (.int k))→∃l:List Int,ds=l.map (D.int k)∧l.length=n
 | [],n,h=>by
  simp only[D.hass] at h
  cases n with
  | zero=>exact⟨[],rfl,rfl⟩
  | succ n=>simp[List.replicate_succ] at h
 | d::ds,n,h=>by
  simp only[D.hass] at h
  obtain⟨κ,κs,h1,h2,h3⟩:=h
  cases n with
  | zero=>simp at h1
  | succ n=>
   simp only[List.replicate_succ,List.cons.injEq] at h1
   obtain⟨rfl,rfl⟩:=h1
   obtain⟨l,rfl,rfl⟩:=hass_ints h3
   obtain⟨x,rfl⟩:=has_int h2
   exact⟨x::l,rfl,rfl⟩
theorem wf_i64 {n:Int} (h:D.wf (.int .i64 n)):i64ok n:=by
 simp only[D.wf,IntKind.min,IntKind.max,IntKind.signed,IntKind.bits] at h
 unfold i64ok
 simp at h
 omega
theorem hass1 {d:D} {ds:List D} {κ:K} {κs:List K} (h:D.hass ty (d::ds) (κ::κs)):D.has ty d κ∧D.hass ty ds κs:=by
 simp only[D.hass] at h
 obtain⟨_,_,h1,h2,h3⟩:=h
 simp only[List.cons.injEq] at h1
 obtain⟨rfl,rfl⟩:=h1
 exact⟨h2,h3⟩
theorem hass0 {ds:List D} (h:D.hass ty ds []):ds=[]:=by
 cases ds with
 | nil=>rfl
 | cons d ds=>simp[D.hass] at h
theorem hassC {ds:List D} {κ:K} {κs:List K} (h:D.hass ty ds (κ::κs)):∃d ds',ds=d::ds'∧D.has ty d κ∧D.hass ty ds' κs:=by
 cases ds with
 | nil=>simp[D.hass] at h
 | cons d ds=>exact⟨d,ds,rfl,hass1 h⟩
theorem hass_rep {α:Type} {f:α→D} {κ:K} {Q:α→Prop} (one:∀d,D.has ty d κ→D.wf d→∃x,d=f x∧Q x):∀{ds:List D} {n:Nat},D.hass ty ds (List.replicate n κ)→D.wfs ds→∃l:List α,ds=l.map f∧l.length=n∧∀x∈l,Q x
 | [],n,h,_=>by
  cases n with
  | zero=>exact⟨[],rfl,rfl,by simp⟩
  | succ n=>simp[List.replicate_succ,D.hass] at h
 | d::ds,n,h,hw=>by
  cases n with
  | zero=>simp[D.hass] at h
  | succ n=>
   rw[List.replicate_succ] at h
   obtain⟨h1,h2⟩:=hass1 h
   simp only[D.wfs] at hw
   obtain⟨x,rfl,hx⟩:=one d h1 hw.1
   obtain⟨l,rfl,rfl,hl⟩:=hass_rep one h2 hw.2
   exact⟨x::l,rfl,rfl,by simpa using ⟨hx,hl⟩⟩
theorem ev_of {d:D} {fs:List Nat} {e:Nat} (hf:fs.map ty=[.int .i64,.int .i64,.str,.int .i64,.int .i64,.array 32 e]) (h5:ty e = .int .u8) (h:D.has ty d (.struct fs)) (hw:D.wf d):∃e:Ev,d=e.enc∧e.ok:=by
 obtain⟨ds,rfl,hh⟩:=hass_struct h
 clear h
 rw[hf] at hh
 obtain⟨d0,_,rfl,h0,hh⟩:=hassC hh
 obtain⟨d1,_,rfl,h1,hh⟩:=hassC hh
 obtain⟨d2,_,rfl,h2,hh⟩:=hassC hh
 obtain⟨d3,_,rfl,h3,hh⟩:=hassC hh
 obtain⟨d4,_,rfl,h4,hh⟩:=hassC hh
 obtain⟨d5,_,rfl,h5',hh⟩:=hassC hh
 obtain rfl:=hass0 hh
 obtain⟨x0,rfl⟩:=has_int h0
 obtain⟨x1,rfl⟩:=has_int h1
 obtain⟨x2,rfl⟩:=has_str h2
 obtain⟨x3,rfl⟩:=has_int h3
 obtain⟨x4,rfl⟩:=has_int h4
 obtain⟨ds5,rfl,h6⟩:=hass_array h5'
 rw[h5] at h6
 obtain⟨l,rfl,hl⟩:=hass_ints h6
 rw[D.wf] at hw
 simp only[D.wfs] at hw
 exact⟨⟨x0,x1,x2,x3,x4,l⟩,rfl,wf_i64 hw.1,wf_i64 hw.2.1,wf_i64 hw.2.2.2.1,wf_i64 hw.2.2.2.2.1,hl⟩
end
end Go.AM
namespace Go.AM.SZ
open Go Go.AM
def fewB (l:List Ev):Bool:=decide (l.length≤20)&&(l.take 21).all fun e=>decide (e.name.size≤100)
def zeros:List Int:=List.replicate 32 0
theorem eqvs_ints (n:Nat):∀(a b:List Int),a.length=b.length→eqvs (D.eqv ty (n+1)) (a.map (D.int .u8)) (b.map (D.int .u8)) (List.replicate a.length (.int .u8))=some (a==b)
 | [],[],_=>rfl
 | x::a,y::b,h=>by
  have ih:=eqvs_ints n a b (by simpa using h)
  simp only[List.map_cons,List.length_cons,List.replicate_succ,eqvs]
  have h1:D.eqv ty (n+1) (D.int .u8 x) (D.int .u8 y) (.int .u8)=some (x==y):=rfl
  rw[h1]
  cases hxy:x==y
  ·simp[hxy]
  ·simp only[ih];simp[hxy]
 | [],_::_,h=>by simp at h
 | _::_,[],h=>by simp at h
theorem ty5:ty 5 = .int .u8:=rfl
theorem eqv_sum (n:Nat) {a b:List Int} (ha:a.length=32) (hb:b.length=32):D.eqv ty (n+2) (sumD a) (sumD b) (.array 32 5)=some (a==b):=by
 have:=eqvs_ints n a b (by omega)
 rw[ha] at this
 simp only[sumD,D.eqv,ty5]
 exact this
def evEq (a b:Ev):Bool:=a.kind==b.kind&&(a.id==b.id&&(a.name==b.name&&(a.time==b.time&&(a.len==b.len&&a.sum==b.sum))))
theorem eqv_ev {a b:Ev} (ha:a.sum.length=32) (hb:b.sum.length=32):D.eqv ty eqDepth a.enc b.enc (.struct [50,3,9,3,3,56])=some (evEq a b):=by
 have h:=eqv_sum 13 ha hb
 have hk:List.map ty [50,3,9,3,3,56]=[.int .i64,.int .i64,.str,.int .i64,.int .i64,.array 32 5]:=rfl
 have e1:∀x y:Int,D.eqv ty 15 (.int .i64 x) (.int .i64 y) (.int .i64)=some (x==y):=fun _ _=>rfl
 have e2:∀x y:ByteArray,D.eqv ty 15 (.str x) (.str y) .str=some (x==y):=fun _ _=>rfl
 have e0:D.eqv ty eqDepth a.enc b.enc (.struct [50,3,9,3,3,56])=eqvs (D.eqv ty 15) [di a.kind,di a.id,dS a.name,di a.time,di a.len,sumD a.sum] [di b.kind,di b.id,dS b.name,di b.time,di b.len,sumD b.sum] (List.map ty [50,3,9,3,3,56]):=rfl
 rw[e0,hk]
 simp only[eqvs,e1,e2,h]
 unfold evEq
 cases a.kind==b.kind
 ·rfl
 cases a.id==b.id
 ·rfl
 cases a.name==b.name
 ·rfl
 cases a.time==b.time
 ·rfl
 cases a.len==b.len
 ·rfl
 cases a.sum==b.sum<;>rfl
def evCanon (e:Ev):Ev:=
 if e.kind=1 then ⟨1,e.id,bs [],0,e.len,zeros⟩ else if e.kind=2 then ⟨2,e.id,bs [],e.time,e.len,e.sum⟩ else if e.kind=3 then ⟨3,e.id,bs [],e.time,0,zeros⟩ else
 if e.kind=6 then ⟨6,e.id,bs [],0,0,zeros⟩ else if e.kind=7 then ⟨7,0,bs [],e.time,0,zeros⟩ else ⟨e.kind,e.id,e.name,0,0,zeros⟩
def partsL (e:Ev):List D:=
 if e.kind=1 then [.iface 160 (di e.id),.iface 160 (di e.len)] else if e.kind=2 then [.iface 160 (di e.id),.iface 160 (di e.time),.iface 160 (di e.len),.iface 161 (sumD e.sum)] else
 if e.kind=3 then [.iface 160 (di e.id),.iface 160 (di e.time)] else if e.kind=6 then [.iface 160 (di e.id)] else if e.kind=7 then [.iface 160 (di e.time)] else
 if e.kind=0∨e.kind=4∨e.kind=5 then [.iface 160 (di e.id),.iface 133 (dS e.name)] else []
theorem parts_spec (e:Ev):F68.s FUEL e.enc=some (dl (!(partsL e).isEmpty) (partsL e)):=by
 unfold F68.s partsL
 simp only[Ev.enc,at_agg,List.getD_cons_zero,List.getD_cons_succ,i_int]
 by_cases h0:e.kind=0
 ·simp[h0,eqI]
 by_cases h4:e.kind=4
 ·simp[h4,eqI]
 by_cases h5:e.kind=5
 ·simp[h5,eqI]
 by_cases h1:e.kind=1
 ·simp[h1,eqI]
 by_cases h2:e.kind=2
 ·simp[h2,eqI]
 by_cases h3:e.kind=3
 ·simp[h3,eqI]
 by_cases h6:e.kind=6
 ·simp[h6,eqI]
 by_cases h7:e.kind=7
 ·simp[h7,eqI]
 have n:∀k:Int,e.kind≠k→eqI e.kind k=false:=fun k h=>by simpa using h
 rw[n 0 h0,n 1 h1,n 2 h2,n 3 h3,n 4 h4,n 5 h5,n 6 h6,n 7 h7]
 simp[h0,h1,h2,h3,h4,h5,h6,h7]
def evKind (e:Ev):Prop:=e.kind=0∨e.kind=1∨e.kind=2∨e.kind=3∨e.kind=4∨e.kind=5∨e.kind=6∨e.kind=7
theorem of_spec (e:Ev) (h:evKind e):F69.s FUEL e.kind (dl (!(partsL e).isEmpty) (partsL e))=some (evCanon e).enc:=by
 obtain⟨k,id,name,time,len,sum⟩:=e
 rcases h with h | h | h | h | h | h | h | h<;>(simp only at h;subst h;kernel_rfl)
theorem decode_pos (s:ByteArray) (i:Nat):1≤(Utf8.decode s i).2:=by
 unfold Utf8.decode
 simp only[]
 repeat' split
 all_goals simp
def runesAt (s:ByteArray):Nat→Nat→List (Nat×Nat)
 | 0,_=>[]
 | f+1,p=>if p<s.size then (p,(Utf8.decode s p).1)::runesAt s f (p+(Utf8.decode s p).2) else []
def runes (s:ByteArray):List (Nat×Nat):=runesAt s s.size 0
theorem runesAt_end {s:ByteArray} {p:Nat} (h:s.size≤p) (f:Nat):runesAt s f p=[]:=by
 cases f with
 | zero=>rfl
 | succ f=>simp[runesAt];omega
theorem runesAt_more {s:ByteArray}:∀(f g p:Nat),s.size-p≤f→s.size-p≤g→runesAt s f p=runesAt s g p
 | 0,g,p,h,_=>by rw[runesAt_end (by omega),runesAt_end (by omega)]
 | f+1,0,p,h,h'=>by rw[runesAt_end (by omega),runesAt_end (by omega)]
 | f+1,g+1,p,h,h'=>by
  have:=decode_pos s p
  simp only[runesAt]
  split
  ·rw[runesAt_more f g _ (by omega) (by omega)]
  ·rfl
def runesFrom (s:ByteArray) (p:Nat):List (Nat×Nat):=runesAt s (s.size-p) p
theorem runesFrom_step {s:ByteArray} {p:Nat} (h:p<s.size):runesFrom s p=(p,(Utf8.decode s p).1)::runesFrom s (p+(Utf8.decode s p).2):=by
 have h1:=decode_pos s p
 unfold runesFrom
 rw[show s.size-p=(s.size-p-1)+1 by omega,runesAt,if_pos h]
 congr 1
 exact runesAt_more _ _ _ (by omega) (by omega)
theorem runesFrom_end {s:ByteArray} {p:Nat} (h:s.size≤p):runesFrom s p=[]:=runesAt_end h _
theorem runesAt_len (s:ByteArray):∀(f p:Nat),(runesAt s f p).length≤f
 | 0,_=>by simp[runesAt]
 | f+1,p=>by
  simp only[runesAt]
  split
  ·have:=runesAt_len s f (p+(Utf8.decode s p).2)
   simp;omega
  ·simp
theorem runes_len (s:ByteArray):(runes s).length≤s.size:=runesAt_len _ _ _
theorem count_spec (s:ByteArray) (hs:s.size≤1048576):F118.s FUEL s=some (di ((runes s).length:Int)):=by
 unfold F118.s
 have hl:=runes_len s
 refine goS_rule (fun t=>∃k p:Nat,t=⟨k,s,p⟩∧k+(runesFrom s p).length=(runes s).length) (fun t=>s.size-t.n3) (fun o=>o=some (di ((runes s).length:Int))) ?_ _ _ ⟨0,0,rfl,by simp[runes,runesFrom]⟩ (by simp[FUEL];omega)
 rintro _ rec ⟨k,p,rfl,hk⟩ hrec
 simp only[F118.st3]
 have hp:=decode_pos s p
 by_cases h:p<s.size
 ·refine ct (by simpa using h) ?_
  rw[runesFrom_step h] at hk
  simp at hk
  refine hrec _ ⟨k+1,p+(Utf8.decode s p).2,?_,by omega⟩ (by simp;omega)
  rw[ad64 (by omega) (by omega)];rfl
 ·refine cf (by simpa using h) ?_
  rw[runesFrom_end (by omega)] at hk
  simp at hk
  simp[hk]
def oddR (r:Int):Bool:=decide (r<32)||decide (r=47)||(decide (127≤r)&&decide (r≤159))||decide (r=65533)
theorem odd_spec (r:Int):F117.s FUEL r=some (db (oddR r)):=by
 unfold F117.s oddR
 by_cases h1:r<32
 ·exact ct (by simpa using h1) (by simp[h1])
 refine cf (by simp;omega) ?_
 by_cases h2:r=47
 ·exact ct (by simpa using h2) (by simp[h2])
 refine cf (by simpa using h2) ?_
 by_cases h3:127≤r
 ·refine ct (by simpa using h3) ?_
  by_cases h4:r≤159
  ·exact ct (by simpa using h4) (by simp[h3,h4])
  ·exact cf (by simp;omega) (by simp[h1,h2,h3,h4,eqI];rw[Bool.eq_iff_iff];simp)
 ·exact cf (by simp;omega) (by simp[h1,h2,h3,eqI];rw[Bool.eq_iff_iff];simp)
theorem eqv_bool (n:Nat) (a b:Bool):D.eqv ty (n+1) (.bool a) (.bool b) .bool=some (a==b):=rfl
def nameB (s:ByteArray):Bool:=decide (0<(runes s).length)&&(decide ((runes s).length≤24)&&((runes s).all (fun r=>!oddR r.2)&&(decide (byteAt s 0≠32)&&decide (byteAt s (s.size-1)≠32))))
theorem name_spec (s:ByteArray) (hs:s.size≤1048576):F70.s FUEL s=some (db (nameB s)):=by
 unfold F70.s
 refine bdS (count_spec s hs) ?_
 have hl:=runes_len s
 unfold nameB
 by_cases h1:0<(runes s).length
 ·refine ct (by simpa using h1) ?_
  by_cases h2:(runes s).length≤24
  ·refine ct (by simp;omega) ?_
   simp only[h1,h2,decide_true,Bool.true_and]
   have hsz:0<s.size:=by omega
   have tail:∀b:Bool,(cond (inb 0 s.size) (cond (neI (byteAt s 0) 32) (cond (inb (sb .i64 (nI s.size) 1) s.size) (some (db (neI (byteAt s (sb .i64 (nI s.size) 1).toNat) 32))) none) (some (db false))) none)=some (db (decide (byteAt s 0≠32)&&decide (byteAt s (s.size-1)≠32))):=by
    intro _
    have hsb:sb .i64 (nI s.size) 1=((s.size-1:Nat):Int):=by
     simp only[nI_eq]
     rw[sb64 (by omega) (by omega)];omega
    rw[hsb]
    refine ct (by simp;omega) ?_
    by_cases h3:byteAt s 0=32
    ·exact cf (by simp[h3]) (by simp[h3])
    ·refine ct (by simpa using h3) (ct (by simp;omega) ?_)
     simp only[Int.toNat_natCast]
     rw[show neI (byteAt s (s.size-1)) 32=decide (byteAt s (s.size-1)≠32) by simp[neI,bne,Bool.beq_eq_decide_eq]]
     simp[h3]
   refine goS_rule (fun t=>∃p:Nat,t=⟨true,s,p⟩∧(runes s).all (fun r=>!oddR r.2)=(runesFrom s p).all (fun r=>!oddR r.2)) (fun t=>s.size-t.n4) (fun o=>o=some (db ((runes s).all (fun r=>!oddR r.2)&&(decide (byteAt s 0≠32)&&decide (byteAt s (s.size-1)≠32))))) ?_ _ _ ⟨0,rfl,by simp[runes,runesFrom]⟩ (by simp[FUEL];omega)
   rintro _ rec ⟨p,rfl,hk⟩ hrec
   simp only[F70.st142_2]
   have hp:=decode_pos s p
   by_cases h:p<s.size
   ·refine ct (by simpa using h) (bdS (odd_spec _) ?_)
    rw[runesFrom_step h] at hk
    simp only[List.all_cons] at hk
    refine bdS (x:=db (oddR (Utf8.decode s p).1)) ?_ ?_
    ·rw[show eqDepth=15+1 from rfl,eqv_bool]
     cases oddR _<;>rfl
    ·cases ho:oddR (Utf8.decode s p).1 with
     | true=>
      refine ct rfl ?_
      show cond (ltI (nI p) 0) _ (some (db false))=_
      refine cf (by simp) ?_
      rw[hk,ho]
      simp
     | false=>
      refine cf rfl ?_
      refine hrec _ ⟨_,rfl,?_⟩ (by simp;omega)
      rw[hk,ho];simp
   ·refine cf (by simpa using h) ?_
    rw[runesFrom_end (by omega)] at hk
    simp only[List.all_nil] at hk
    rw[hk,Bool.true_and]
    exact tail true
  ·refine cf (by simp;omega) (by simp[h2])
 ·refine cf (by simp only[gtI_f,i_int];omega) (by simp[h1])
end Go.AM.SZ
namespace Go.AM.SZ
open Go Go.AM
theorem within_spec (a b c:Int):F71.s FUEL a b c=some (db (decide (b≤a)&&decide (a≤c))):=by
 unfold F71.s
 by_cases h:b≤a
 ·exact ct (by simpa using h) (by simp[h,leI])
 ·exact cf (by simp;omega) (by simp[h])
def evB (e:Ev):Bool:=
 (decide (0≤e.kind)&&decide (e.kind≤7))&&(evEq (evCanon e) e&&((decide (¬(e.kind=0∨e.kind=4∨e.kind=5))||nameB e.name) &&
  ((decide (e.kind=7)||(decide (1≤e.id)&&decide (e.id≤1099511627776)))&&((decide (0≤e.time)&&decide (e.time≤1099511627776))&&(decide ((if e.kind=1 then 1 else 0)≤e.len)&&decide (e.len≤600))))))
theorem canon_sum (e:Ev) (h:e.sum.length=32):(evCanon e).sum.length=32:=by
 unfold evCanon
 repeat' split
 all_goals first | exact h | rfl
theorem kinds (e:Ev) (h0:0≤e.kind) (h7:e.kind≤7):evKind e:=by unfold evKind;omega
theorem valid_spec (e:Ev) (hn:e.name.size≤1048576) (hs:e.sum.length=32):F34.s FUEL e.enc=some (db (evB e)):=by
 unfold F34.s
 refine bdS (parts_spec e) ?_
 by_cases hk:evKind e
 ·have hk0:0≤e.kind∧e.kind≤7:=by unfold evKind at hk;omega
  have hne:partsL e≠[]:=by
   unfold partsL
   rcases hk with h | h | h | h | h | h | h | h<;>simp[h]
  have hlen:0<(partsL e).length:=List.length_pos_iff.2 hne
  refine cf (by simp only[eqI_f,nI_eq,elems_slice];omega) ?_
  have hkk:(e.enc.at 0).i=e.kind:=rfl
  refine bdS (by rw[hkk];exact of_spec e hk) ?_
  refine bdS (x:=db (!evEq (evCanon e) e)) (by rw[eqv_ev (canon_sum e hs) hs]) ?_
  unfold evB
  rw[show (decide (0≤e.kind)&&decide (e.kind≤7))=true by simp[hk0]]
  cases hev:evEq (evCanon e) e with
  | false=>exact ct (by simp) (by simp)
  | true=>
   refine cf (by simp) ?_
   simp only[Bool.true_and]
   have fin:∀(least:Int) (nm:Bool),least=(if e.kind=1 then 1 else 0)→nm=(decide (¬(e.kind=0∨e.kind=4∨e.kind=5))||nameB e.name) →
     (cond nm (cond (eqI e.kind 7) (bd (F71.s FUEL e.time 0 1099511627776) fun r18=>(cond r18.b (bd (F71.s FUEL e.len least 600) fun r19=>(some r19)) (some (db false)))) (bd (F71.s FUEL e.id 1 1099511627776) fun r20=>(cond r20.b (bd (F71.s FUEL e.time 0 1099511627776) fun r21=>(cond r21.b (bd (F71.s FUEL e.len least 600) fun r22=>(some r22)) (some (db false)))) (some (db false))))) (some (db false))) =
     some (db ((decide (¬(e.kind=0∨e.kind=4∨e.kind=5))||nameB e.name)&&((decide (e.kind=7)||(decide (1≤e.id)&&decide (e.id≤1099511627776)))&&((decide (0≤e.time)&&decide (e.time≤1099511627776))&&(decide ((if e.kind=1 then 1 else 0)≤e.len)&&decide (e.len≤600)))))):=by
    intro least nm hl hnm
    rw[←hl,←hnm]
    cases nm with
    | false=>rfl
    | true=>
     refine ct rfl ?_
     by_cases h7:e.kind=7
     ·refine ct (by simpa using h7) (bdS (within_spec _ _ _) ?_)
      simp only[h7,decide_true,Bool.true_or,Bool.true_and]
      cases hb:(decide (0≤e.time)&&decide (e.time≤1099511627776)) with
      | false=>exact cf rfl rfl
      | true=>exact ct rfl (bdS (within_spec _ _ _) rfl)
     ·refine cf (by simpa using h7) (bdS (within_spec _ _ _) ?_)
      simp only[h7,decide_false,Bool.false_or,Bool.true_and]
      cases ha:(decide (1≤e.id)&&decide (e.id≤1099511627776)) with
      | false=>exact cf rfl rfl
      | true=>
       refine ct rfl (bdS (within_spec _ _ _) ?_)
       cases hb:(decide (0≤e.time)&&decide (e.time≤1099511627776)) with
       | false=>exact cf rfl rfl
       | true=>exact ct rfl (bdS (within_spec _ _ _) rfl)
   have loop:∀(least:Int) (K:F34.X9→Option D) (R:Option D),
     (K (.e0 least (db (decide (¬(e.kind=0∨e.kind=4∨e.kind=5))||nameB e.name)) (dl (!(partsL e).isEmpty) (partsL e)) (nI (partsL e).length) (nI (partsL e).length) e.enc)=R) →
     goS (F34.st9 FUEL) FUEL ⟨least,db true,dl (!(partsL e).isEmpty) (partsL e),nI (partsL e).length,0,e.enc⟩ K=R:=by
    intro least K R hR
    have hle:(partsL e).length≤4:=by
     unfold partsL;repeat' split
     all_goals simp
    have hT:∀i (h:i<(partsL e).length),(e.kind=0∨e.kind=4∨e.kind=5)→(i=0∧isT 133 (partsL e)[i]=false)∨(i=1∧(partsL e)[i] = .iface 133 (dS e.name)):=by
     intro i h h1
     have hp:partsL e=[.iface 160 (di e.id),.iface 133 (dS e.name)]:=by
      unfold partsL;rw[if_neg (by omega),if_neg (by omega),if_neg (by omega),if_neg (by omega),if_neg (by omega),if_pos h1]
     simp only[hp] at h ⊢
     match i,h with
     | 0,_=>exact .inl ⟨rfl,rfl⟩
     | 1,_=>exact .inr ⟨rfl,rfl⟩
    have hL:(e.kind=0∨e.kind=4∨e.kind=5)→(partsL e).length=2:=by
     intro h1
     unfold partsL;rw[if_neg (by omega),if_neg (by omega),if_neg (by omega),if_neg (by omega),if_neg (by omega),if_pos h1];rfl
    have hF:∀i (h:i<(partsL e).length),¬(e.kind=0∨e.kind=4∨e.kind=5)→isT 133 (partsL e)[i]=false:=by
     intro i h h1
     have hall:(partsL e).all (fun d=>!isT 133 d)=true:=by
      unfold partsL
      repeat' split
      all_goals first | rfl | (exfalso;omega)
     have:=List.all_eq_true.1 hall (partsL e)[i] (List.getElem_mem h)
     simpa using this
    generalize hX:(decide (¬(e.kind=0∨e.kind=4∨e.kind=5))||nameB e.name)=X at hR
    refine goS_rule (fun t=>∃i:Nat,i≤(partsL e).length∧t=⟨least,db (decide (i≤1)||X),dl (!(partsL e).isEmpty) (partsL e),nI (partsL e).length,(i:Int),e.enc⟩) (fun t=>5-t.i15.toNat) (fun o=>o=R) ?_ _ _ ⟨0,by omega,rfl⟩ (by simp[FUEL])
    rintro _ rec ⟨i,hi,rfl⟩ hrec
    simp only[F34.st9]
    by_cases h:i<(partsL e).length
    ·refine ct (by simp;omega) (ct (by simp;omega) ?_)
     simp only[elems_slice,Int.toNat_natCast,ix_eq h]
     by_cases hkd:e.kind=0∨e.kind=4∨e.kind=5
     ·rcases hT i h hkd with ⟨rfl,hf⟩ | ⟨rfl,hf⟩
      ·refine cf hf (hrec _ ⟨1,by omega,?_⟩ ?_)
       ·rw[ad64 (by omega) (by omega)];rfl
       ·rw[ad64 (by omega) (by omega)];simp
      ·rw[hf]
       refine ct rfl (bdS (name_spec _ hn) (hrec _ ⟨2,by omega,?_⟩ ?_))
       ·rw[ad64 (by omega) (by omega)]
        have:X=nameB e.name:=by rw[←hX];simp[hkd]
        rw[this];rfl
       ·rw[ad64 (by omega) (by omega)];simp
     ·have hXt:X=true:=by rw[←hX];simp[hkd]
      refine cf (hF i h hkd) (hrec _ ⟨i+1,by omega,?_⟩ ?_)
      ·rw[ad64 (by omega) (by omega),hXt];simp
      ·rw[ad64 (by omega) (by omega)];simp;omega
    ·refine cf (by simp;omega) ?_
     have hil:i=(partsL e).length:=by omega
     subst hil
     have:(decide ((partsL e).length≤1)||X)=X:=by
      by_cases hkd:e.kind=0∨e.kind=4∨e.kind=5
      ·rw[hL hkd];rfl
      ·have hXt:X=true:=by rw[←hX];simp[hkd]
       rw[hXt];simp
     rw[this]
     exact hR
   by_cases h1:e.kind=1
   ·refine ct (by rw[hkk];simpa using h1) ?_
    refine loop 1 _ _ ?_
    have:=fin 1 _ (by simp[h1]) rfl
    exact this
   ·refine cf (by rw[hkk];simpa using h1) ?_
    refine loop 0 _ _ ?_
    have:=fin 0 _ (by simp[h1]) rfl
    exact this
 ·have:partsL e=[]:=by
   unfold partsL;unfold evKind at hk
   repeat' split
   all_goals first | rfl | (exfalso;omega)
  rw[this]
  refine ct (by simp) ?_
  unfold evB
  have:(decide (0≤e.kind)&&decide (e.kind≤7))=false:=by
   unfold evKind at hk
   simp;omega
  simp[this]
def findI {α:Type} (p:α→Bool) (l:List α):Int:=match l.findIdx? p with | some i=>i | none=>-1
theorem findIdx_none_of {α:Type} {p:α→Bool} {l:List α} (h:∀i (hi:i<l.length),p l[i]=false):l.findIdx? p=none:=by
 rw[List.findIdx?_eq_none_iff]
 intro x hx
 obtain⟨i,hi,rfl⟩:=List.getElem_of_mem hx
 simpa using h i hi
theorem findIdx_some_of {α:Type} {p:α→Bool} {l:List α} {k:Nat} (hk:k<l.length) (h:∀i (hi:i<l.length),i<k→p l[i]=false) (h':p l[k]=true):l.findIdx? p=some k:=by
 rw[List.findIdx?_eq_some_iff_getElem]
 exact⟨hk,h',fun j hj=>by simp[h j (by omega) hj]⟩
theorem index_spec (nn:Bool) (l:List ByteArray) (x:ByteArray) (hl:l.length≤1048576):F128.s FUEL (dl nn (l.map dS)) x=some (di (findI (fun y=>decide (x=y)) l)):=by
 unfold F128.s
 refine goS_rule (fun t=>∃k:Nat,t=⟨dl nn (l.map dS),x,nI l.length,(k:Int)⟩∧k≤l.length∧∀i (h:i<l.length),i<k→decide (x=l[i])=false) (fun t=>l.length-t.i4.toNat) (fun o=>o=some (di (findI (fun y=>decide (x=y)) l))) ?_ _ _ ⟨0,by simp,by omega,by omega⟩ (by simp[FUEL];omega)
 rintro _ rec ⟨k,rfl,hk,hs⟩ hrec
 simp only[F128.st2]
 by_cases h1:k<l.length
 ·refine ct (by simp;omega) (ct (by simp;omega) ?_)
  simp only[elems_slice,Int.toNat_natCast,ix_map h1,s_str]
  by_cases h2:x=l[k]
  ·refine ct (by simpa using h2) ?_
   rw[findI,findIdx_some_of h1 hs (by simpa using h2)]
  ·refine cf (by simpa using h2) (hrec _ ⟨k+1,?_,by omega,?_⟩ ?_)
   ·rw[ad64 (by omega) (by omega)];rfl
   ·intro i hi hik
    by_cases hik':i=k
    ·subst hik';simpa using h2
    ·exact hs i hi (by omega)
   ·rw[ad64 (by omega) (by omega)];simp;omega
 ·refine cf (by simp;omega) ?_
  rw[findI,findIdx_none_of (fun i hi=>hs i hi (by omega))]
theorem findI_nonneg {α:Type} {p:α→Bool} {l:List α}:0≤findI p l↔l.any p=true:=by
 unfold findI
 constructor
 ·intro h0
  split at h0
  ·rename_i i h
   rw[List.findIdx?_eq_some_iff_getElem] at h
   obtain⟨hi,h1,_⟩:=h
   exact List.any_eq_true.2 ⟨l[i],List.getElem_mem hi,h1⟩
  ·omega
 ·intro h0
  split
  ·omega
  ·rename_i h
   rw[List.findIdx?_eq_none_iff] at h
   rw[List.any_eq_false.2 fun y hy=>by simpa using h y hy] at h0
   simp at h0
theorem contains_spec (nn:Bool) (l:List ByteArray) (x:ByteArray) (hl:l.length≤1048576):F123.s FUEL (dl nn (l.map dS)) x=some (db (l.any fun y=>decide (x=y))):=by
 unfold F123.s
 refine bdS (index_spec nn l x hl) ?_
 have:geI (di (findI (fun y=>decide (x=y)) l)).i 0=l.any fun y=>decide (x=y):=by
  rw[Bool.eq_iff_iff,geI_t,i_int]
  exact findI_nonneg
 rw[this]
theorem clone_strs (nn:Bool) (l:List D) (h:nn=false→l=[]) (hl:l.length≤1073741824):F127.s FUEL (dl nn l)=some (dl nn l):=by
 unfold F127.s
 cases nn with
 | false=>rw[h rfl];rfl
 | true=>
  refine cf rfl (ct (by simpa using hl) (ct (by simp) rfl))
theorem clone_entries (nn:Bool) (l:List D) (h:nn=false→l=[]) (hl:l.length≤1073741824):F36.s FUEL (dl nn l)=some (dl nn l):=by
 unfold F36.s
 cases nn with
 | false=>rw[h rfl];rfl
 | true=>
  refine cf rfl (ct (by simpa using hl) (ct (by simp) rfl))
theorem timely_spec (t:Int):F122.s FUEL t=some (db (decide (0≤t)&&decide (t≤1099511627776))):=by
 unfold F122.s
 by_cases h:0≤t
 ·exact ct (by simpa using h) (by simp[h,leI])
 ·exact cf (by simp;omega) (by simp[h])
def timely (t:Int):Bool:=decide (0≤t)&&decide (t≤1099511627776)
def mayN (f:Fl) (floor:Int):Int:=if f.sealed=false then 6 else if floor<f.until_ then 8 else if 0<f.holds.length then 9 else 0
theorem may_spec (f:Fl) (floor:Int):F85.s FUEL f.enc floor=some (di (mayN f floor)):=by
 unfold F85.s mayN
 cases hs:f.sealed with
 | false=>exact ct (by simp[Fl.enc,hs]) rfl
 | true=>
  refine cf (by simp[Fl.enc,hs]) ?_
  rw[if_neg (by simp)]
  by_cases h1:floor<f.until_
  ·rw[if_pos h1];exact ct (by simpa[Fl.enc] using h1) rfl
  ·rw[if_neg h1]
   refine cf (by simpa[Fl.enc] using h1) ?_
   by_cases h2:0<f.holds.length
   ·rw[if_pos h2];exact ct (by simp only[gtI_t,nI_eq,Fl.enc,at_agg,List.getD_cons_zero,List.getD_cons_succ,elems_slice,List.length_map];omega) rfl
   ·rw[if_neg h2];exact cf (by simp only[gtI_f,nI_eq,Fl.enc,at_agg,List.getD_cons_zero,List.getD_cons_succ,elems_slice,List.length_map];omega) rfl
def sealF (f:Fl) (t:Int):Fl×Int:=if f.sealed=true then (f,5) else if timely t=false then (f,1) else ({ f with sealed:=true,until_:=t },0)
theorem seal_spec (f:Fl) (t:Int):F76.s FUEL f.enc t=some (.tup [(sealF f t).1.enc,di (sealF f t).2]):=by
 unfold F76.s sealF
 cases hs:f.sealed with
 | true=>exact ct (by simp[Fl.enc,hs]) rfl
 | false=>
  refine cf (by simp[Fl.enc,hs]) (bdS (timely_spec t) ?_)
  rw[if_neg (by simp)]
  cases ht:timely t with
  | false=>exact ct (by unfold timely at ht;simp[ht]) rfl
  | true=>exact cf (by unfold timely at ht;simp[ht]) rfl
def extendF (f:Fl) (t:Int):Fl×Int:=if f.sealed=false then (f,6) else if timely t=false then (f,1) else if t<f.until_ then (f,7) else ({ f with until_:=t },0)
theorem extend_spec (f:Fl) (t:Int):F79.s FUEL f.enc t=some (.tup [(extendF f t).1.enc,di (extendF f t).2]):=by
 unfold F79.s extendF
 cases hs:f.sealed with
 | false=>exact ct (by simp[Fl.enc,hs]) rfl
 | true=>
  refine cf (by simp[Fl.enc,hs]) (bdS (timely_spec t) ?_)
  rw[if_neg (by simp)]
  cases ht:timely t with
  | false=>exact ct (by unfold timely at ht;simp[ht]) rfl
  | true=>
   refine cf (by unfold timely at ht;simp[ht]) ?_
   rw[if_neg (by simp)]
   by_cases h1:t<f.until_
   ·rw[if_pos h1];exact ct (by simpa[Fl.enc] using h1) rfl
   ·rw[if_neg h1];exact cf (by simpa[Fl.enc] using h1) (by simp[Fl.enc,hs])
end Go.AM.SZ
namespace Go.AM.SZ
open Go Go.AM
theorem decodeGo_tail (s:ByteArray) (pos:Nat) (h:pos<s.size):Lib.decodeGo (s.extract pos s.size)=Utf8.decode s pos:=by
 unfold Lib.decodeGo
 rw[if_neg (by rw[Lib.tail_size];omega),Lib.tail_decode,Nat.add_zero]
def keyR (s:ByteArray) (r:Nat×Nat):Int:=if r.2=65533∧(Utf8.decode s r.1).2<2 then 1114112+byteAt s r.1 else (r.2:Int)
def keys (s:ByteArray):List Int:=(runes s).map (keyR s)
theorem broken_spec (s:ByteArray) (p:Nat) (r:Nat) (h:p<s.size) (hs:s.size≤1048576):F147.s FUEL s (nI p) (r:Int)=some (db (decide (r=65533∧(Utf8.decode s p).2<2))):=by
 unfold F147.s
 by_cases hr:r=65533
 ·subst hr
  refine cf (by simp) (ct (by simp;omega) ?_)
  simp only[nI_eq,Int.toNat_natCast,decodeGo_tail s p h,ltI]
  congr 2
  rw[Bool.eq_iff_iff];simp
  omega
 ·refine ct (by simp;omega) ?_
  simp[hr]
theorem byteAt_range (s:ByteArray) (p:Nat):0≤byteAt s p∧byteAt s p<256:=by
 unfold byteAt
 have:=(s.data.toList.getD p 0).toNat_lt
 omega
theorem i32_small {n:Int} (h0:0≤n) (h1:n<2000000):IntKind.wrap .i32 n=n:=by
 simp[IntKind.wrap,IntKind.signed,IntKind.bits]
 omega
theorem runes_spec (s:ByteArray) (hs:s.size≤1048576):F136.s FUEL s=some (dl (!(keys s).isEmpty) ((keys s).map (D.int .i32))):=by
 unfold F136.s
 have hl:=runes_len s
 refine goS_rule (fun t=>∃(p:Nat) (l:List Int),t=⟨s,0,l.length,s,p,!l.isEmpty,l.map (D.int .i32)⟩∧keys s=l++(runesFrom s p).map (keyR s)) (fun t=>s.size-t.n5) (fun o=>o=some (dl (!(keys s).isEmpty) ((keys s).map (D.int .i32)))) ?_ _ _ ⟨0,[],rfl,by simp[keys,runes,runesFrom]⟩ (by simp[FUEL];omega)
 rintro _ rec ⟨p,l,rfl,hk⟩ hrec
 simp only[F136.st3]
 have hp:=decode_pos s p
 by_cases h:p<s.size
 ·have hlen:l.length<1048577:=by
   have:=congrArg List.length hk
   simp[keys] at this
   omega
  refine ct (by simpa using h) (bdS (broken_spec s p _ h hs) ?_)
  rw[runesFrom_step h] at hk
  have hall:∀x:Int,x=keyR s (p,(Utf8.decode s p).1)→rec ⟨s,0,l.length+1,s,p+(Utf8.decode s p).2,(!l.isEmpty||true),ap (((l.map (D.int .i32)).drop 0).take l.length) [D.int .i32 x]⟩=some (dl (!(keys s).isEmpty) ((keys s).map (D.int .i32))):=by
   intro x hx
   refine hrec _ ⟨p+(Utf8.decode s p).2,l++[x],?_,?_⟩ (by simp;omega)
   ·have e1:ap (((l.map (D.int .i32)).drop 0).take l.length) [D.int .i32 x]=(l++[x]).map (D.int .i32):=by
     rw[ap,List.drop_zero,List.take_of_length_le (by simp)];simp
    rw[e1];simp
   ·rw[hk,hx];simp
  by_cases hb:(Utf8.decode s p).1=65533∧(Utf8.decode s p).2<2
  ·refine ct (by simpa using hb) (ct (by simp;omega) (ct (by simp;omega) (hall _ ?_)))
   have hr:=byteAt_range s p
   simp only[ad,cv]
   have e1:=i32_small (n:=byteAt s p) (by omega) (by omega)
   rw[e1,i32_small (by omega) (by omega),keyR,if_pos hb]
  ·refine cf (by simpa using hb) (ct (by simp;omega) (hall _ ?_))
   rw[keyR,if_neg hb]
 ·refine cf (by simpa using h) ?_
  rw[runesFrom_end (by omega)] at hk
  simp at hk
  rw[hk]
  refine ct (by simp) rfl
theorem keys_len (s:ByteArray):(keys s).length≤s.size:=by simp[keys];exact runes_len s
def lexB:List Int→List Int→Bool
 | [],ys=>!ys.isEmpty
 | _::_,[]=>false
 | x::xs,y::ys=>if x=y then lexB xs ys else decide (x<y)
def lessB (a b:ByteArray):Bool:=lexB (keys a) (keys b)
theorem lexB_drop {xs ys:List Int} {i:Nat} (h:∀j (h1:j<xs.length) (h2:j<ys.length),j<i→xs[j]=ys[j]) (hi:i≤xs.length) (hi':i≤ys.length):lexB xs ys=lexB (xs.drop i) (ys.drop i):=by
 induction i generalizing xs ys with
 | zero=>simp
 | succ i ih=>
  match xs,ys with
  | [],_=>simp at hi
  | _::_,[]=>simp at hi'
  | x::xs,y::ys=>
   have h0:=h 0 (by simp) (by simp) (by omega)
   simp at h0
   simp only[lexB,h0,if_true,List.drop_succ_cons]
   exact ih (fun j h1 h2 h3=>by have:=h (j+1) (by simpa using h1) (by simpa using h2) (by omega);simpa using this) (by simpa using hi) (by simpa using hi')
theorem less_spec (a b:ByteArray) (ha:a.size≤1048576) (hb:b.size≤1048576):F102.s FUEL a b=some (db (lessB a b)):=by
 unfold F102.s
 refine bdS (runes_spec a ha) (bdS (runes_spec b hb) ?_)
 have hla:=keys_len a
 have hlb:=keys_len b
 simp only[elems_slice,nn_slice,List.length_map]
 generalize hx:keys a=xs at hla
 generalize hy:keys b=ys at hlb
 refine goS_rule (fun t=>∃i:Nat,t=⟨0,xs.length,0,ys.length,0,xs.length,nI xs.length,(i:Int),!xs.isEmpty,xs.map (D.int .i32),!ys.isEmpty,ys.map (D.int .i32)⟩∧i≤xs.length∧i≤ys.length∧∀j (h1:j<xs.length) (h2:j<ys.length),j<i→xs[j]=ys[j]) (fun t=>xs.length-t.i10.toNat) (fun o=>o=some (db (lessB a b))) ?_ _ _ ⟨0,by simp,by omega,by omega,by omega⟩ (by simp[FUEL];omega)
 rintro _ rec ⟨i,rfl,hi,hi',hs⟩ hrec
 have hlex:=lexB_drop hs hi hi'
 simp only[F102.st3]
 unfold lessB at hrec ⊢
 rw[hx,hy] at hrec ⊢
 by_cases h1:i<xs.length
 ·refine ct (by simp;omega) (ct (by simp;omega) ?_)
  rw[List.drop_eq_getElem_cons h1] at hlex
  by_cases h2:i<ys.length
  ·rw[List.drop_eq_getElem_cons h2] at hlex
   simp only[lexB] at hlex
   refine cf (by simp;omega) (ct (by simp;omega) ?_)
   simp only[Int.toNat_natCast,Nat.zero_add,ix_map h1,ix_map h2,i_int]
   by_cases h3:xs[i]=ys[i]
   ·refine cf (by simpa using h3) (hrec _ ⟨i+1,?_,by omega,by omega,?_⟩ ?_)
    ·rw[ad64 (by omega) (by omega)];rfl
    ·intro j hj1 hj2 hj
     by_cases hji:j=i
     ·subst hji;exact h3
     ·exact hs j hj1 hj2 (by omega)
    ·rw[ad64 (by omega) (by omega)];simp;omega
   ·refine ct (by simpa using h3) (ct (by simp;omega) ?_)
    rw[if_neg h3] at hlex
    rw[hlex]
    rfl
  ·have hdy:ys.drop i=[]:=List.drop_of_length_le (by omega)
   rw[hdy] at hlex
   simp only[lexB] at hlex
   refine ct (by simp;omega) ?_
   rw[hlex]
 ·have hdx:xs.drop i=[]:=List.drop_of_length_le (by omega)
  rw[hdx] at hlex
  simp only[lexB] at hlex
  refine cf (by simp;omega) ?_
  rw[hlex]
  congr 2
  rw[Bool.eq_iff_iff,ltI_t,nI_eq,nI_eq]
  have e:(!(ys.drop i).isEmpty)=true↔i<ys.length:=by
   rw[Bool.not_eq_true',List.isEmpty_eq_false_iff,←List.length_pos_iff,List.length_drop]
   omega
  rw[e];omega
def insH (s:ByteArray) (l:List ByteArray):List ByteArray:=match l.findIdx? (fun y=>!lessB y s) with
 | some i=>l.take i++[s]++l.drop i
 | none=>l++[s]
def hasB (l:List ByteArray) (s:ByteArray):Bool:=l.any fun y=>decide (s=y)
def holdF (f:Fl) (s:ByteArray):Fl×Int:=
 if f.sealed=false then (f,6) else if nameB s=false then (f,2) else if hasB f.holds s=true then (f,4) else if 4≤f.holds.length then (f,10) else ({ f with nn:=true,holds:=insH s f.holds },0)
theorem hold_spec (f:Fl) (s:ByteArray) (hs:s.size≤1048576) (hh:f.holds.length≤1048576) (hsz:∀x∈f.holds,x.size≤1048576) (hn:f.nn=false→f.holds=[]):F81.s FUEL f.enc s=some (.tup [(holdF f s).1.enc,di (holdF f s).2]):=by
 unfold F81.s holdF
 by_cases hse:f.sealed=false
 ·rw[if_pos hse];exact ct (by simp[Fl.enc,hse]) rfl
 ·rw[if_neg hse]
  refine cf (by simp[Fl.enc];simpa using hse) (bdS (name_spec s hs) ?_)
  cases hnm:nameB s with
  | false=>exact ct rfl rfl
  | true=>
   refine cf rfl ?_
   rw[if_neg (by simp)]
   have h5:f.enc.at 5=dl f.nn (f.holds.map dS):=rfl
   rw[h5]
   refine bdS (contains_spec f.nn f.holds s hh) ?_
   show cond (hasB f.holds s) _ _=_
   cases hc:hasB f.holds s with
   | true=>exact ct rfl rfl
   | false=>
    refine cf rfl ?_
    rw[if_neg (by simp)]
    by_cases h4:4≤f.holds.length
    ·rw[if_pos h4];exact ct (by simp;omega) rfl
    ·rw[if_neg h4]
     refine cf (by simp;omega) ?_
     have hcl:=clone_strs f.nn (f.holds.map dS) (fun h=>by rw[hn h];rfl) (by simp;omega)
     have fin:∀i:Nat,i≤f.holds.length→insH s f.holds=f.holds.take i++[s]++f.holds.drop i →
       (some (D.tup [(da [f.enc.at 0,f.enc.at 1,f.enc.at 2,f.enc.at 3,f.enc.at 4,(dl true (((ap (ap ((((f.holds.map dS).drop 0).take (f.holds.map dS).length).take i) [dS s]) ((((f.holds.map dS).drop 0).take (f.holds.map dS).length).drop i)).drop 0).take ((f.holds.map dS).length+1)))]),di 0]):Option D) =
        some (.tup [({ f with nn:=true,holds:=insH s f.holds }:Fl).enc,di 0]):=by
      intro i hi he
      have e1:((ap (ap ((((f.holds.map dS).drop 0).take (f.holds.map dS).length).take i) [dS s]) ((((f.holds.map dS).drop 0).take (f.holds.map dS).length).drop i)).drop 0).take ((f.holds.map dS).length+1)=(insH s f.holds).map dS:=by
       rw[he,List.drop_zero,List.drop_zero,List.take_of_length_le (l:=f.holds.map dS) (Nat.le_refl _),ap,ap,List.take_of_length_le]
       ·simp[List.map_take,List.map_drop]
       ·simp;omega
      rw[e1]
      rfl
     refine goS_rule (fun t:F81.S124_2=>∃k:Nat,t=⟨dl f.nn (f.holds.map dS),s,nI (dl f.nn (f.holds.map dS)).elems.length,(k:Int),f.enc,0,bs [],bs [],false,0,false,[]⟩∧k≤f.holds.length∧∀i (h:i<f.holds.length),i<k→(!lessB f.holds[i] s)=false) (fun t=>f.holds.length-t.i6.toNat) (fun o=>o=some (.tup [({ f with nn:=true,holds:=insH s f.holds }:Fl).enc,di 0])) ?_ _ _ ⟨0,rfl,by omega,by omega⟩ (by simp[FUEL];omega)
     rintro _ rec ⟨k,rfl,hk,hlt⟩ hrec
     simp only[F81.st124_2]
     by_cases h1:k<f.holds.length
     ·refine ct (by simp;omega) (ct (by simp;omega) ?_)
      simp only[elems_slice,Int.toNat_natCast,ix_map h1,s_str]
      refine bdS (less_spec _ _ (hsz _ (List.getElem_mem h1)) hs) ?_
      cases hb:lessB f.holds[k] s with
      | false=>
       refine ct rfl (cf (by simp) (bdS (by rw[h5];exact hcl) (ct ?_ ?_)))
       ·simp;omega
       ·refine fin k (by omega) ?_
        rw[insH,findIdx_some_of h1 hlt (by simp[hb])]
      | true=>
       refine cf rfl (hrec _ ⟨k+1,?_,by omega,?_⟩ ?_)
       ·rw[ad64 (by omega) (by omega)];rfl
       ·intro i hi hik
        by_cases hik':i=k
        ·subst hik';simp[hb]
        ·exact hlt i hi (by omega)
       ·rw[ad64 (by omega) (by omega)];simp;omega
     ·refine cf (by simp;omega) (bdS (by rw[h5];exact hcl) (ct ?_ ?_))
      ·rw[h5];simp;omega
      ·rw[h5]
       have:=fin f.holds.length (Nat.le_refl _) (by rw[insH,findIdx_none_of (fun i hi=>hlt i hi (by omega))];simp)
       simpa using this
def releaseF (f:Fl) (s:ByteArray):Fl×Int:=match f.holds.findIdx? (fun y=>decide (s=y)) with
 | some i=>({ f with holds:=f.holds.eraseIdx i },0)
 | none=>(f,3)
end Go.AM.SZ
namespace Go.AM.SZ
open Go Go.AM
theorem findI_some {α:Type} {p:α→Bool} {l:List α} {i:Nat} (h:l.findIdx? p=some i):findI p l=(i:Int):=by rw[findI,h]
theorem findI_none {α:Type} {p:α→Bool} {l:List α} (h:l.findIdx? p=none):findI p l = -1:=by rw[findI,h]
theorem findIdx_lt {α:Type} {p:α→Bool} {l:List α} {i:Nat} (h:l.findIdx? p=some i):i<l.length:=by
 rw[List.findIdx?_eq_some_iff_getElem] at h
 exact h.1
theorem findIdx_is {α:Type} {p:α→Bool} {l:List α} {i:Nat} (h:l.findIdx? p=some i):∃hi:i<l.length,p l[i]=true:=by
 rw[List.findIdx?_eq_some_iff_getElem] at h
 exact⟨h.1,h.2.1⟩
theorem del_row {L M R S T:List D} {i a m1 m2:Nat} (hi:i<L.length) (ha:a=i) (hM:M=L.drop (i+1)) (h1:m1=i+M.length) (h2:m2=i+M.length) :
  (((ap (ap ((ap (ap (L.take a) M) R).take m1) S) T).drop 0).take m2)=L.eraseIdx i:=by
 have e:(L.take i++M).length=i+M.length:=by rw[List.length_append,List.length_take,Nat.min_eq_left (by omega)]
 subst ha
 simp only[ap,List.drop_zero]
 rw[h1,h2,←e,List.take_left,List.append_assoc,List.take_left,hM,List.eraseIdx_eq_take_drop_succ]
theorem eraseIdx_map {α β:Type} (f:α→β) (l:List α) (i:Nat):(l.map f).eraseIdx i=(l.eraseIdx i).map f:=by
 rw[List.eraseIdx_eq_take_drop_succ,List.eraseIdx_eq_take_drop_succ,List.map_append,List.map_take,List.map_drop]
theorem release_spec (f:Fl) (s:ByteArray) (hh:f.holds.length≤1048576) (hn:f.nn=false→f.holds=[]):F83.s FUEL f.enc s=some (.tup [(releaseF f s).1.enc,di (releaseF f s).2]):=by
 unfold F83.s releaseF
 have h5:f.enc.at 5=dl f.nn (f.holds.map dS):=rfl
 rw[h5]
 refine bdS (index_spec f.nn f.holds s hh) ?_
 cases hx:f.holds.findIdx? (fun y=>decide (s=y)) with
 | none=>rw[findI_none hx];exact ct (by simp) rfl
 | some i=>
  rw[findI_some hx]
  have hi:=findIdx_lt hx
  have had:ad .i64 (i:Int) 1=((i+1:Nat):Int):=by rw[ad64 (by omega) (by omega)];rfl
  refine cf (by simp) (bdS (clone_strs f.nn (f.holds.map dS) (fun h=>by rw[hn h];rfl) (by simp;omega)) ?_)
  simp only[i_int,elems_slice,nn_slice,had,Int.toNat_natCast,Nat.sub_zero,Nat.zero_add,List.length_map]
  refine ct ?_ (cf (by simp;omega) (ct ?_ (ct ?_ (ct ?_ (ct ?_ ?_)))))
  ·simp;omega
  ·simp;omega
  ·simp;omega
  ·simp;omega
  ·simp[ap];omega
  ·rw[del_row (i:=i) (by simp;omega) rfl (by rw[List.take_of_length_le];simp) rfl rfl,eraseIdx_map]
   rfl
def findE (es:List En) (id:Int):Int:=findI (fun x=>decide (x.file.id=id)) es
theorem find_spec (b:Bk) (id:Int) (hl:b.es.length≤1048576):F31.s FUEL b.enc id=some (di (findE b.es id)):=by
 unfold F31.s findE
 have h0:b.enc.at 0=dl b.nn (b.es.map En.enc):=rfl
 rw[h0]
 refine goS_rule (fun t:F31.S59_2=>∃k:Nat,t=⟨dl b.nn (b.es.map En.enc),nI b.es.length,(k:Int),b.enc,id⟩∧k≤b.es.length∧∀i (h:i<b.es.length),i<k→decide (b.es[i].file.id=id)=false) (fun t=>b.es.length-t.i3.toNat) (fun o=>o=some (di (findI (fun x=>decide (x.file.id=id)) b.es))) ?_ _ _ ⟨0,by simp,by omega,by omega⟩ (by simp[FUEL];omega)
 rintro _ rec ⟨k,rfl,hk,hs⟩ hrec
 simp only[F31.st59_2]
 by_cases h1:k<b.es.length
 ·refine ct (by simp;omega) (ct (by simp;omega) ?_)
  simp only[elems_slice,Int.toNat_natCast,ix_map h1]
  have he:((b.es[k].enc.at 0).at 0).i=b.es[k].file.id:=rfl
  rw[he]
  by_cases h2:b.es[k].file.id=id
  ·refine ct (by simpa using h2) ?_
   rw[findI,findIdx_some_of h1 hs (by simpa using h2)]
  ·refine cf (by simpa using h2) (hrec _ ⟨k+1,?_,by omega,?_⟩ ?_)
   ·rw[ad64 (by omega) (by omega)];rfl
   ·intro i hi hik
    by_cases hik':i=k
    ·subst hik';simpa using h2
    ·exact hs i hi (by omega)
   ·rw[ad64 (by omega) (by omega)];simp;omega
 ·refine cf (by simp;omega) ?_
  rw[findI,findIdx_none_of (fun i hi=>hs i hi (by omega))]
set_option maxRecDepth 100000 in
theorem works_spec:F14.s FUEL=some (db true):=by kernel_rfl
end Go.AM.SZ
namespace Go.AM.SZ
open Go Go.AM
def deedE (e:Ev) (x:En):Option En:=
 if e.kind=1 then (if x.file.sealed=true then none else if 600-e.len<x.len then none else some { x with len:=x.len+e.len })
 else if e.kind=2 then (if x.len≠e.len then none else if (sealF x.file e.time).2=0 then some { x with file:=(sealF x.file e.time).1,sum:=e.sum } else none)
 else if e.kind=3 then (if (extendF x.file e.time).2=0 then some { x with file:=(extendF x.file e.time).1 } else none)
 else if e.kind=4 then (if (holdF x.file e.name).2=0 then some { x with file:=(holdF x.file e.name).1 } else none)
 else (if (releaseF x.file e.name).2=0 then some { x with file:=(releaseF x.file e.name).1 } else none)
def playB (b:Bk) (e:Ev):Bk×Int:=
 if evB e=false then (b,13)
 else if e.kind=7 then (if e.time≤b.floor then (b,13) else ({ b with floor:=e.time },0))
 else if e.kind=0 then (if e.id-1≠b.last then (b,13) else if 12≤b.es.length then (b,13) else if 0≤findI (fun x=>decide (x.file.name=e.name)) b.es then (b,13)
  else ({ b with nn:=true,es:=b.es++[⟨⟨e.id,e.name,bs [],false,0,false,[]⟩,0,zeros⟩],last:=e.id },0))
 else match b.es.findIdx? (fun x=>decide (x.file.id=e.id)) with
  | none=>(b,13)
  | some i=>match b.es[i]? with
   | none=>(b,13)
   | some x=>if e.kind=6 then (if mayN x.file b.floor=0 then ({ b with es:=b.es.eraseIdx i },0) else (b,13))
    else match deedE e x with
     | none=>(b,13)
     | some y=>({ b with es:=b.es.set i y },0)
structure EnOk (x:En) (last:Int):Prop where
 hold:x.file.holds.length≤4
 size:∀s∈x.file.holds,s.size≤1048576
 nil:x.file.nn=false→x.file.holds=[]
 sum:x.sum.length=32
 id0:1≤x.file.id
 id1:x.file.id≤last
 len0:0≤x.len
 len1:x.len≤600
structure BkOk (b:Bk):Prop where
 len:b.es.length≤12
 nil:b.nn=false→b.es=[]
 last0:0≤b.last
 last1:b.last≤1099511627776
 es:∀x∈b.es,EnOk x b.last
theorem row_set {α:Type} {f:α→D} {l:List α} {i m:Nat} {y:α} (h:m=l.length):(((l.map f).set i (f y)).drop 0).take m=(l.set i y).map f:=by
 rw[List.drop_zero,List.take_of_length_le (by simp;omega),List.map_set]
theorem pre_some {b:Bk} {id:Int} {Y:D→D→Option D} {ERR R:Option D} {i:Nat} (hb:BkOk b) (hx:b.es.findIdx? (fun x=>decide (x.file.id=id))=some i) (h:Y (di i) (dl b.nn (b.es.map En.enc))=R) :
  (bd (F31.s FUEL b.enc id) fun r=>cond (ltI r.i 0) ERR (bd (F36.s FUEL (b.enc.at 0)) fun r'=>cond (inb r.i r'.elems.length) (Y r r') none))=R:=by
 have hi:=findIdx_lt hx
 have hl:=hb.len
 refine bdS (find_spec b id (by omega)) ?_
 rw[findE,findI_some hx]
 refine cf (by simp) (bdS (x:=dl b.nn (b.es.map En.enc)) (clone_entries b.nn _ (fun h=>by rw[hb.nil h];rfl) (by simp;omega)) (ct (by simp;omega) h))
theorem valid_range {e:Ev} (h:evB e=true):0≤e.kind∧e.kind≤7∧0≤e.len∧e.len≤600∧(e.kind=1→1≤e.len)∧0≤e.time∧e.time≤1099511627776∧(e.kind=7∨(1≤e.id∧e.id≤1099511627776))∧evEq (evCanon e) e=true:=by
 unfold evB at h
 simp only[Bool.and_eq_true,Bool.or_eq_true,decide_eq_true_eq] at h
 obtain⟨⟨h1,h2⟩,h3,_,h4,⟨h5,h6⟩,h7,h8⟩:=h
 refine⟨h1,h2,?_,h8,?_,h5,h6,h4,h3⟩
 ·split at h7<;>omega
 ·intro hk;rw[if_pos hk] at h7;exact h7
theorem play_spec (b:Bk) (e:Ev) (hb:BkOk b) (hid:i64ok e.id) (hn:e.name.size≤1048576) (hs:e.sum.length=32):F16.s FUEL b.enc e.enc=some (.tup [(playB b e).1.enc,di (playB b e).2]):=by
 have hl:=hb.len
 unfold F16.s
 refine bdS (valid_spec e hn hs) ?_
 unfold playB
 cases hv:evB e with
 | false=>exact ct rfl rfl
 | true=>
  refine cf rfl ?_
  rw[if_neg (by simp)]
  obtain⟨hk0,hk7,hl0,hl6,hl1,ht0,ht1,hid',hev⟩:=valid_range hv
  have cond_t:∀(n:Int),e.kind=n→eqI (e.enc.at 0).i n=true:=fun n h=>by show eqI e.kind n=true;simpa using h
  have cond_f:∀(n:Int),e.kind≠n→eqI (e.enc.at 0).i n=false:=fun n h=>by show eqI e.kind n=false;simpa using h
  by_cases h7:e.kind=7
  ·refine ct (cond_t 7 h7) ?_
   rw[if_pos h7]
   by_cases h:e.time≤b.floor
   ·rw[if_pos h];exact ct (by show leI e.time b.floor=true;simpa using h) rfl
   ·rw[if_neg h];exact cf (by show leI e.time b.floor=false;simp;omega) rfl
  refine cf (cond_f 7 h7) ?_
  rw[if_neg h7]
  by_cases h0:e.kind=0
  ·refine ct (cond_t 0 h0) ?_
   rw[if_pos h0]
   have hsub:sb .i64 (e.enc.at 1).i 1=e.id-1:=by
    show sb .i64 e.id 1=_
    rw[sb64]<;>omega
   rw[hsub]
   by_cases h1:e.id-1≠b.last
   ·rw[if_pos h1];exact ct (by show neI (e.id-1) b.last=true;simpa using h1) rfl
   rw[if_neg h1]
   refine cf (by show neI (e.id-1) b.last=false;simpa using h1) ?_
   by_cases h2:12≤b.es.length
   ·rw[if_pos h2];exact ct (by show geI (nI (b.es.map En.enc).length) 12=true;simp;omega) rfl
   rw[if_neg h2]
   refine cf (by show geI (nI (b.es.map En.enc).length) 12=false;simp;omega) ?_
   have hcl:=clone_entries b.nn (b.es.map En.enc) (fun h=>by rw[hb.nil h];rfl) (by simp;omega)
   have h0':b.enc.at 0=dl b.nn (b.es.map En.enc):=rfl
   rw[h0']
   obtain⟨R,hR⟩:∃R:Bk×Int,R=(if 0≤findI (fun x=>decide (x.file.name=e.name)) b.es then (b,13) else ({ b with nn:=true,es:=b.es++[⟨⟨e.id,e.name,bs [],false,0,false,[]⟩,0,zeros⟩],last:=e.id },0)):=⟨_,rfl⟩
   rw[←hR]
   refine goS_rule (fun t:F16.S59_2=>∃k:Nat,t=⟨dl b.nn (b.es.map En.enc),nI b.es.length,(k:Int),b.enc,e.enc,false,[],0,0,b.enc,e.enc⟩∧k≤b.es.length∧∀i (h:i<b.es.length),i<k→decide (b.es[i].file.name=e.name)=false) (fun t=>b.es.length-t.i4.toNat) (fun o=>o=some (.tup [R.1.enc,di R.2])) ?_ _ _ ⟨0,by simp,by omega,by omega⟩ (by simp[FUEL];omega)
   rintro _ rec ⟨k,rfl,hk,hlt⟩ hrec
   simp only[F16.st59_2]
   by_cases h3:k<b.es.length
   ·refine ct (by simp;omega) (ct (by simp;omega) ?_)
    simp only[elems_slice,Int.toNat_natCast,ix_map h3]
    by_cases h4:b.es[k].file.name=e.name
    ·refine ct (by show eqS b.es[k].file.name e.name=true;simpa using h4) (ct (by simp) ?_)
     rw[hR,findI_some (findIdx_some_of h3 hlt (by simpa using h4)),if_pos (by omega)]
    ·refine cf (by show eqS b.es[k].file.name e.name=false;simpa using h4) (hrec _ ⟨k+1,?_,by omega,?_⟩ ?_)
     ·rw[ad64 (by omega) (by omega)];rfl
     ·intro i hi hik
      by_cases hik':i=k
      ·subst hik';simpa using h4
      ·exact hlt i hi (by omega)
     ·rw[ad64 (by omega) (by omega)];simp;omega
   ·refine cf (by simp;omega) ?_
    rw[hR,findI_none (findIdx_none_of (fun i hi=>hlt i hi (by omega))),if_neg (by omega)]
    refine bdS (by rw[h0'];exact hcl) (ct (by simp;omega) ?_)
    simp only[elems_slice,nn_slice,Bool.or_true]
    have e1:((ap (((b.es.map En.enc).drop 0).take (b.es.map En.enc).length) [(da [(da [(e.enc.at 1),(e.enc.at 2),(dS (bs [])),(db false),(di 0),(dl false [])]),(di 0),(da (rp 32 (D.int .u8 0)))])]).drop 0).take ((b.es.map En.enc).length+1)=(b.es++[(⟨⟨e.id,e.name,bs [],false,0,false,[]⟩,0,zeros⟩:En)]).map En.enc:=by
     rw[List.drop_zero,List.drop_zero,ap,List.take_of_length_le (l:=b.es.map En.enc) (Nat.le_refl _),List.take_of_length_le (by simp)]
     simp only[List.map_append]
     rfl
    rw[e1]
    rfl
  refine cf (cond_f 0 h0) ?_
  rw[if_neg h0]
  cases hx:b.es.findIdx? (fun x=>decide (x.file.id=e.id)) with
  | none=>
   have hfs:F31.s FUEL b.enc (e.enc.at 1).i=some (di (-1)):=by
    have:=find_spec b e.id (by omega)
    rw[findE,findI_none hx] at this
    exact this
   by_cases h1:e.kind=1
   ·exact ct (cond_t 1 h1) (bdS hfs (ct rfl rfl))
   refine cf (cond_f 1 h1) ?_
   by_cases h2:e.kind=2
   ·exact ct (cond_t 2 h2) (bdS hfs (ct rfl rfl))
   refine cf (cond_f 2 h2) ?_
   by_cases h3:e.kind=3
   ·exact ct (cond_t 3 h3) (bdS hfs (ct rfl rfl))
   refine cf (cond_f 3 h3) ?_
   by_cases h4:e.kind=4
   ·exact ct (cond_t 4 h4) (bdS hfs (ct rfl rfl))
   refine cf (cond_f 4 h4) ?_
   by_cases h5:e.kind=5
   ·exact ct (cond_t 5 h5) (bdS hfs (ct rfl rfl))
   exact cf (cond_f 5 h5) (bdS hfs (ct rfl rfl))
  | some i=>
   have hi:=findIdx_lt hx
   have hid:(e.enc.at 1).i=e.id:=rfl
   have hxo:=hb.es _ (List.getElem_mem hi)
   rw[hid]
   dsimp only
   rw[List.getElem?_eq_getElem hi]
   dsimp only
   have hie:ix (b.es.map En.enc) (0+(di (i:Int)).i.toNat)=b.es[i].enc:=by simp[ix_map hi]
   generalize b.es[i]=x at hxo hie ⊢
   have setE:∀y:En,(((b.es.map En.enc).set (0+(di (i:Int)).i.toNat) y.enc).drop 0).take (b.es.map En.enc).length=(b.es.set i y).map En.enc:=by
    intro y
    have:0+(di (i:Int)).i.toNat=i:=by simp
    rw[this]
    exact row_set (by simp)
   by_cases h1:e.kind=1
   ·refine ct (cond_t 1 h1) (pre_some hb hx ?_)
    rw[if_neg (by omega)]
    unfold deedE
    rw[if_pos h1]
    simp only[elems_slice,hie]
    have hg:(x.enc.at 0).at 3 = .bool x.file.sealed:=rfl
    refine bdBS hg ?_
    cases hse:x.file.sealed with
    | true=>exact ct rfl rfl
    | false=>
     rw[if_neg (by simp)]
     refine cf rfl ?_
     have h4:sb .i64 600 (e.enc.at 4).i=600-e.len:=by
      show sb .i64 600 e.len=_
      rw[sb64]<;>omega
     rw[h4]
     by_cases h5:600-e.len<x.len
     ·rw[if_pos h5];exact ct (by show gtI x.len (600-e.len)=true;simpa using h5) rfl
     ·rw[if_neg h5]
      refine cf (by show gtI x.len (600-e.len)=false;simpa using h5) (cf (cond_f 6 (by omega)) ?_)
      have ha:ad .i64 (x.enc.at 1).i (e.enc.at 4).i=x.len+e.len:=by
       show ad .i64 x.len e.len=_
       have:=hxo.len0
       rw[ad64]<;>omega
      rw[ha]
      have:=setE { x with len:=x.len+e.len }
      exact congrArg (fun l=>some (D.tup [da [dl b.nn l,di b.last,di b.floor],di 0])) this
   refine cf (cond_f 1 h1) ?_
   by_cases h2:e.kind=2
   ·refine ct (cond_t 2 h2) (pre_some hb hx ?_)
    rw[if_neg (by omega)]
    unfold deedE
    rw[if_neg h1,if_pos h2]
    simp only[elems_slice,hie]
    refine bdS (x:=.tup [(sealF x.file e.time).1.enc,di (sealF x.file e.time).2]) (seal_spec x.file e.time) ?_
    by_cases h5:x.len≠e.len
    ·rw[if_pos h5];exact ct (by show neI x.len e.len=true;simpa using h5) rfl
    ·rw[if_neg h5]
     refine cf (by show neI x.len e.len=false;simpa using h5) ?_
     by_cases h6:(sealF x.file e.time).2=0
     ·rw[if_pos h6]
      refine ct (by show eqI (sealF x.file e.time).2 0=true;simpa using h6) (cf (by show (!eqI (sealF x.file e.time).2 0)=false;simpa using h6) (cf (cond_f 6 (by omega)) ?_))
      have h00:0+(di (i:Int)).i.toNat=i:=by simp
      have e1:ix ((b.es.map En.enc).set (0+(di (i:Int)).i.toNat) (D.agg (x.enc.parts.set 0 ((D.tup [(sealF x.file e.time).1.enc,di (sealF x.file e.time).2]).at 0)))) (0+(di (i:Int)).i.toNat)=D.agg (x.enc.parts.set 0 (sealF x.file e.time).1.enc):=by
       rw[h00,ix_eq (by simpa using hi)];simp
      rw[e1,List.set_set]
      have:=setE { x with file:=(sealF x.file e.time).1,sum:=e.sum }
      exact congrArg (fun l=>some (D.tup [da [dl b.nn l,di b.last,di b.floor],di 0])) this
     ·rw[if_neg h6]
      exact cf (by show eqI (sealF x.file e.time).2 0=false;simpa using h6) (ct (by show (!eqI (sealF x.file e.time).2 0)=true;simpa using h6) rfl)
   refine cf (cond_f 2 h2) ?_
   by_cases h3:e.kind=3
   ·refine ct (cond_t 3 h3) (pre_some hb hx ?_)
    rw[if_neg (by omega)]
    unfold deedE
    rw[if_neg h1,if_neg h2,if_pos h3]
    simp only[elems_slice,hie]
    refine bdS (x:=.tup [(extendF x.file e.time).1.enc,di (extendF x.file e.time).2]) (extend_spec x.file e.time) ?_
    by_cases h6:(extendF x.file e.time).2=0
    ·rw[if_pos h6]
     refine ct (by show eqI (extendF x.file e.time).2 0=true;simpa using h6) (cf (by show (!eqI (extendF x.file e.time).2 0)=false;simpa using h6) (cf (cond_f 6 (by omega)) ?_))
     have:=setE { x with file:=(extendF x.file e.time).1 }
     exact congrArg (fun l=>some (D.tup [da [dl b.nn l,di b.last,di b.floor],di 0])) this
    ·rw[if_neg h6]
     exact cf (by show eqI (extendF x.file e.time).2 0=false;simpa using h6) (ct (by show (!eqI (extendF x.file e.time).2 0)=true;simpa using h6) rfl)
   refine cf (cond_f 3 h3) ?_
   by_cases h4:e.kind=4
   ·refine ct (cond_t 4 h4) (pre_some hb hx ?_)
    rw[if_neg (by omega)]
    unfold deedE
    rw[if_neg h1,if_neg h2,if_neg h3,if_pos h4]
    simp only[elems_slice,hie]
    refine bdS (x:=.tup [(holdF x.file e.name).1.enc,di (holdF x.file e.name).2]) (hold_spec x.file e.name hn (by have:=hxo.hold;omega) hxo.size hxo.nil) ?_
    by_cases h6:(holdF x.file e.name).2=0
    ·rw[if_pos h6]
     refine ct (by show eqI (holdF x.file e.name).2 0=true;simpa using h6) (cf (by show (!eqI (holdF x.file e.name).2 0)=false;simpa using h6) (cf (cond_f 6 (by omega)) ?_))
     have:=setE { x with file:=(holdF x.file e.name).1 }
     exact congrArg (fun l=>some (D.tup [da [dl b.nn l,di b.last,di b.floor],di 0])) this
    ·rw[if_neg h6]
     exact cf (by show eqI (holdF x.file e.name).2 0=false;simpa using h6) (ct (by show (!eqI (holdF x.file e.name).2 0)=true;simpa using h6) rfl)
   refine cf (cond_f 4 h4) ?_
   by_cases h5:e.kind=5
   ·refine ct (cond_t 5 h5) (pre_some hb hx ?_)
    rw[if_neg (by omega)]
    unfold deedE
    rw[if_neg h1,if_neg h2,if_neg h3,if_neg h4]
    simp only[elems_slice,hie]
    refine bdS (x:=.tup [(releaseF x.file e.name).1.enc,di (releaseF x.file e.name).2]) (release_spec x.file e.name (by have:=hxo.hold;omega) hxo.nil) ?_
    by_cases h6:(releaseF x.file e.name).2=0
    ·rw[if_pos h6]
     refine ct (by show eqI (releaseF x.file e.name).2 0=true;simpa using h6) (cf (by show (!eqI (releaseF x.file e.name).2 0)=false;simpa using h6) (cf (cond_f 6 (by omega)) ?_))
     have:=setE { x with file:=(releaseF x.file e.name).1 }
     exact congrArg (fun l=>some (D.tup [da [dl b.nn l,di b.last,di b.floor],di 0])) this
    ·rw[if_neg h6]
     exact cf (by show eqI (releaseF x.file e.name).2 0=false;simpa using h6) (ct (by show (!eqI (releaseF x.file e.name).2 0)=true;simpa using h6) rfl)
   have h6:e.kind=6:=by omega
   refine cf (cond_f 5 h5) (pre_some hb hx ?_)
   rw[if_pos h6]
   simp only[elems_slice,hie]
   refine bdS (x:=di (mayN x.file b.floor)) (may_spec x.file b.floor) ?_
   by_cases hm:mayN x.file b.floor=0
   ·rw[if_pos hm]
    refine cf (by simp[hm]) (ct (cond_t 6 h6) ?_)
    have had:ad .i64 (i:Int) 1=((i+1:Nat):Int):=by rw[ad64 (by omega) (by omega)];rfl
    simp only[i_int,nn_slice,had,Int.toNat_natCast,Nat.sub_zero,Nat.zero_add,List.length_map]
    refine ct ?_ (cf (by simp;omega) (ct ?_ (ct ?_ (ct ?_ (ct ?_ ?_)))))
    ·simp;omega
    ·simp;omega
    ·simp;omega
    ·simp;omega
    ·simp[ap];omega
    ·rw[del_row (i:=i) (by simpa using hi) rfl (by rw[List.take_of_length_le];simp) rfl rfl,eraseIdx_map]
     rfl
   ·rw[if_neg hm]
    exact ct (by simpa using hm) rfl
end Go.AM.SZ
namespace Go.AM.SZ
open Go Go.AM
theorem play_err (b:Bk) (e:Ev):(playB b e).2=0∨((playB b e).2=13∧(playB b e).1=b):=by
 unfold playB
 repeat' split
 all_goals first | exact .inl rfl | exact .inr ⟨rfl,rfl⟩
theorem insH_len (s:ByteArray) (l:List ByteArray):(insH s l).length=l.length+1:=by
 unfold insH
 split
 ·rename_i i h
  have:=findIdx_lt h
  simp;omega
 ·simp
theorem insH_mem {s t:ByteArray} {l:List ByteArray} (h:t∈insH s l):t=s∨t∈l:=by
 unfold insH at h
 split at h
 ·simp only[List.mem_append,List.mem_singleton] at h
  rcases h with (h | h) | h
  ·exact .inr (List.mem_of_mem_take h)
  ·exact .inl h
  ·exact .inr (List.mem_of_mem_drop h)
 ·simp only[List.mem_append,List.mem_singleton] at h
  exact h.symm
theorem sealF_id (f:Fl) (t:Int):(sealF f t).1.id=f.id∧(sealF f t).1.nn=f.nn∧(sealF f t).1.holds=f.holds:=by
 unfold sealF;repeat' split
 all_goals exact⟨rfl,rfl,rfl⟩
theorem extendF_id (f:Fl) (t:Int):(extendF f t).1.id=f.id∧(extendF f t).1.nn=f.nn∧(extendF f t).1.holds=f.holds:=by
 unfold extendF;repeat' split
 all_goals exact⟨rfl,rfl,rfl⟩
theorem holdF_id (f:Fl) (s:ByteArray):(holdF f s).1.id=f.id:=by
 unfold holdF;repeat' split
 all_goals rfl
theorem releaseF_id (f:Fl) (s:ByteArray):(releaseF f s).1.id=f.id:=by
 unfold releaseF;split<;>rfl
theorem deed_id {e:Ev} {x y:En} (h:deedE e x=some y):y.file.id=x.file.id:=by
 unfold deedE at h
 repeat' split at h
 all_goals cases h
 all_goals first | rfl | exact(sealF_id _ _).1 | exact(extendF_id _ _).1 | exact holdF_id _ _ | exact releaseF_id _ _
theorem deed_len {e:Ev} {x y:En} (h:deedE e x=some y):y.len=if e.kind=1 then x.len+e.len else x.len:=by
 unfold deedE at h
 repeat' split at h
 all_goals cases h
 all_goals simp[*]
theorem deed_ok {e:Ev} {x y:En} {last:Int} (hx:EnOk x last) (hn:e.name.size≤1048576) (hs:e.sum.length=32) (hl:0≤e.len) (h:deedE e x=some y):EnOk y last:=by
 have hid:=deed_id h
 have hlen:=deed_len h
 unfold deedE at h
 split at h
 ·split at h
  ·exact absurd h (by simp)
  split at h
  ·exact absurd h (by simp)
  simp only[Option.some.injEq] at h;subst h
  rename_i h1 h2 h3
  exact⟨hx.hold,hx.size,hx.nil,hx.sum,hx.id0,hx.id1,by have:=hx.len0;show 0≤x.len+e.len;omega,by show x.len+e.len≤600;omega⟩
 split at h
 ·split at h
  ·exact absurd h (by simp)
  split at h
  ·simp only[Option.some.injEq] at h;subst h
   obtain⟨h1,h2,h3⟩:=sealF_id x.file e.time
   exact⟨by rw[h3];exact hx.hold,by rw[h3];exact hx.size,by rw[h2,h3];exact hx.nil,hs,by rw[h1];exact hx.id0,by rw[h1];exact hx.id1,hx.len0,hx.len1⟩
  ·exact absurd h (by simp)
 split at h
 ·split at h
  ·simp only[Option.some.injEq] at h;subst h
   obtain⟨h1,h2,h3⟩:=extendF_id x.file e.time
   exact⟨by rw[h3];exact hx.hold,by rw[h3];exact hx.size,by rw[h2,h3];exact hx.nil,hx.sum,by rw[h1];exact hx.id0,by rw[h1];exact hx.id1,hx.len0,hx.len1⟩
  ·exact absurd h (by simp)
 split at h
 ·split at h
  ·simp only[Option.some.injEq] at h;subst h
   rename_i h6
   unfold holdF at h6 ⊢
   repeat' split at h6
   all_goals first | (simp at h6;done) | skip
   rename_i g1 g2 g3 g4
   rw[if_neg g1,if_neg g2,if_neg g3,if_neg g4]
   refine⟨?_,?_,by simp,hx.sum,hx.id0,hx.id1,hx.len0,hx.len1⟩
   ·show (insH _ _).length≤4
    rw[insH_len];omega
   ·intro s hs
    rcases insH_mem hs with rfl | hs
    ·exact hn
    ·exact hx.size s hs
  ·exact absurd h (by simp)
 ·split at h
  ·simp only[Option.some.injEq] at h;subst h
   unfold releaseF
   split
   ·refine⟨?_,?_,?_,hx.sum,hx.id0,hx.id1,hx.len0,hx.len1⟩
    ·have:=List.length_eraseIdx_le x.file.holds (by assumption)
     exact Nat.le_trans this hx.hold
    ·intro s hs
     exact hx.size s (List.mem_of_mem_eraseIdx hs)
    ·intro h
     show x.file.holds.eraseIdx _=[]
     rw[hx.nil h];rfl
   ·exact hx
  ·exact absurd h (by simp)
theorem play_cases (b:Bk) (e:Ev) (hv:evB e=true) (h:(playB b e).2=0) :
  (e.kind=7∧b.floor<e.time∧(playB b e).1 = { b with floor:=e.time })
  ∨ (e.kind=0∧e.id=b.last+1∧b.es.length<12∧(playB b e).1 = { b with nn:=true,es:=b.es++[⟨⟨e.id,e.name,bs [],false,0,false,[]⟩,0,zeros⟩],last:=e.id })
  ∨ (e.kind≠7∧e.kind≠0∧∃(i:Nat) (hi:i<b.es.length),b.es[i].file.id=e.id ∧
    ((e.kind=6∧(playB b e).1 = { b with es:=b.es.eraseIdx i })∨(e.kind≠6∧∃y,deedE e b.es[i]=some y∧(playB b e).1 = { b with es:=b.es.set i y }))):=by
 unfold playB at h ⊢
 rw[if_neg (by simp[hv])] at h ⊢
 by_cases h7:e.kind=7
 ·rw[if_pos h7] at h ⊢
  by_cases h1:e.time≤b.floor
  ·rw[if_pos h1] at h;simp at h
  ·rw[if_neg h1];exact .inl ⟨h7,by omega,rfl⟩
 rw[if_neg h7] at h ⊢
 by_cases h0:e.kind=0
 ·rw[if_pos h0] at h ⊢
  by_cases h1:e.id-1≠b.last
  ·rw[if_pos h1] at h;simp at h
  rw[if_neg h1] at h ⊢
  by_cases h2:12≤b.es.length
  ·rw[if_pos h2] at h;simp at h
  rw[if_neg h2] at h ⊢
  split at h
  ·simp at h
  ·rename_i h3
   rw[if_neg h3]
   exact .inr (.inl ⟨h0,by omega,by omega,rfl⟩)
 rw[if_neg h0] at h ⊢
 refine .inr (.inr ⟨h7,h0,?_⟩)
 cases hx:b.es.findIdx? (fun x=>decide (x.file.id=e.id)) with
 | none=>rw[hx] at h;simp at h
 | some i=>
  obtain⟨hi,hp⟩:=findIdx_is hx
  rw[hx] at h
  dsimp only at h ⊢
  rw[List.getElem?_eq_getElem hi] at h ⊢
  dsimp only at h ⊢
  refine⟨i,hi,by simpa using hp,?_⟩
  by_cases h6:e.kind=6
  ·rw[if_pos h6] at h ⊢
   split at h
   ·rename_i h1;rw[if_pos h1];exact .inl ⟨h6,rfl⟩
   ·simp at h
  ·rw[if_neg h6] at h ⊢
   refine .inr ⟨h6,?_⟩
   cases hd:deedE e b.es[i] with
   | none=>rw[hd] at h;simp at h
   | some y=>exact⟨y,rfl,rfl⟩
theorem play_bad (b:Bk) (e:Ev) (hv:evB e=false):playB b e=(b,13):=by
 unfold playB;rw[if_pos hv]
theorem play_ok {b:Bk} {e:Ev} (hb:BkOk b) (hn:e.name.size≤1048576) (hs:e.sum.length=32):BkOk (playB b e).1:=by
 rcases play_err b e with h | ⟨_,h⟩
 case inr=>rw[h];exact hb
 cases hv:evB e with
 | false=>rw[play_bad b e hv] at h;simp at h
 | true=>
  obtain⟨hk0,hk7,hl0,hl6,hl1,ht0,ht1,hid',hev⟩:=valid_range hv
  rcases play_cases b e hv h with ⟨h7,h1,h2⟩ | ⟨h0,h1,h2,h3⟩ | ⟨h7,h0,i,hi,h1,⟨h6,h2⟩ | ⟨h6,y,hy,h2⟩⟩
  ·rw[h2];exact⟨hb.len,hb.nil,hb.last0,hb.last1,hb.es⟩
  ·rw[h3]
   have hid:1≤e.id∧e.id≤1099511627776:=by omega
   refine⟨by simp;omega,by simp,by show 0≤e.id;omega,hid.2,?_⟩
   intro x hx
   simp only[List.mem_append,List.mem_singleton] at hx
   rcases hx with hx | rfl
   ·have hxo:=hb.es x hx
    exact⟨hxo.hold,hxo.size,hxo.nil,hxo.sum,hxo.id0,by have:=hxo.id1;show x.file.id≤e.id;omega,hxo.len0,hxo.len1⟩
   ·exact⟨by simp,by simp,fun _=>rfl,rfl,hid.1,Int.le_refl _,by simp,by simp⟩
  ·rw[h2]
   refine⟨?_,?_,hb.last0,hb.last1,fun x hx=>hb.es x (List.mem_of_mem_eraseIdx hx)⟩
   ·exact Nat.le_trans (List.length_eraseIdx_le _ _) hb.len
   ·intro h;show b.es.eraseIdx i=[];rw[hb.nil h];rfl
  ·rw[h2]
   refine⟨by simpa using hb.len,?_,hb.last0,hb.last1,?_⟩
   ·intro h;show b.es.set i y=[];rw[hb.nil h];rfl
   ·intro x hx
    rcases List.mem_or_eq_of_mem_set hx with hx | rfl
    ·exact hb.es x hx
    ·exact deed_ok (hb.es _ (List.getElem_mem hi)) hn hs hl0 hy
def runB:List Ev→Bk→Nat→Bk×Int×Int
 | [],b,_=>(b,0,0)
 | e::l,b,i=>if (playB b e).2=0 then runB l (playB b e).1 (i+1) else (b,(playB b e).2,(i:Int))
def emptyB:Bk:=⟨false,[],0,0⟩
theorem empty_ok:BkOk emptyB:=⟨by simp[emptyB],fun _=>rfl,by simp[emptyB],by simp[emptyB],by simp[emptyB]⟩
def EvsOk (l:List Ev):Prop:=∀e∈l,i64ok e.id∧e.name.size≤1048576∧e.sum.length=32
theorem run_ok:∀{l:List Ev} {b:Bk} {i:Nat},EvsOk l→BkOk b→BkOk (runB l b i).1
 | [],_,_,_,hb=>hb
 | e::l,b,i,hl,hb=>by
  rw[runB]
  have he:=hl e (by simp)
  split
  ·exact run_ok (fun e' h'=>hl e' (by simp[h'])) (play_ok hb he.2.1 he.2.2)
  ·exact hb
theorem all_spec (nn:Bool) (l:List Ev) (hl:EvsOk l) (hlen:l.length≤1048576):F20.s FUEL (dl nn (l.map Ev.enc))=some (.tup [(runB l emptyB 0).1.enc,di (runB l emptyB 0).2.1,di (runB l emptyB 0).2.2]):=by
 unfold F20.s
 refine goS_rule (fun t:F20.S3=>∃(k:Nat) (b:Bk),t=⟨dl nn (l.map Ev.enc),nI l.length,(k:Int),false,[],0,0,b.enc⟩∧k≤l.length∧BkOk b∧runB l emptyB 0=runB (l.drop k) b k) (fun t=>l.length-t.i15.toNat) (fun o=>o=some (.tup [(runB l emptyB 0).1.enc,di (runB l emptyB 0).2.1,di (runB l emptyB 0).2.2])) ?_ _ _ ⟨0,emptyB,by simp;rfl,by omega,empty_ok,by simp⟩ (by simp[FUEL];omega)
 rintro _ rec ⟨k,b,rfl,hk,hb,hr⟩ hrec
 simp only[F20.st3]
 by_cases h1:k<l.length
 ·refine ct (by simp;omega) (ct (by simp;omega) ?_)
  simp only[elems_slice,Int.toNat_natCast,ix_map h1]
  have he:=hl _ (List.getElem_mem h1)
  refine bdS (play_spec b l[k] hb he.1 he.2.1 he.2.2) ?_
  rw[List.drop_eq_getElem_cons h1,runB] at hr
  by_cases h2:(playB b l[k]).2=0
  ·rw[if_pos h2] at hr
   refine cf (by show neI (playB b l[k]).2 0=false;simpa using h2) (hrec _ ⟨k+1,(playB b l[k]).1,?_,by omega,play_ok hb he.2.1 he.2.2,hr⟩ ?_)
   ·rw[ad64 (by omega) (by omega)];rfl
   ·rw[ad64 (by omega) (by omega)];simp;omega
  ·rw[if_neg h2] at hr
   refine ct (by show neI (playB b l[k]).2 0=true;simpa using h2) ?_
   rw[hr];rfl
 ·refine cf (by simp;omega) ?_
  rw[List.drop_of_length_le (by omega)] at hr
  rw[hr];rfl
theorem few_ok {l:List Ev} (h:fewB l=true) (hs:∀e∈l,e.ok):l.length≤20∧EvsOk l:=by
 unfold fewB at h
 simp only[Bool.and_eq_true,decide_eq_true_eq,List.all_eq_true] at h
 refine⟨h.1,fun e he=>⟨(hs e he).id,?_,(hs e he).sum⟩⟩
 have:=h.2 e (by rw[List.take_of_length_le (by omega)];exact he)
 omega
end Go.AM.SZ
namespace Go.AM.SZ
open Go Go.AM
structure St where
 nn:Bool
 files:List Fl
 last:Int
 floor:Int
def St.enc (s:St):D:=da [dl s.nn (s.files.map Fl.enc),di s.last,di s.floor]
structure Mo where
 kind:Int
 name:ByteArray
 text:ByteArray
 time:Int
 a:Int
 b:Int
def Mo.enc (o:Mo):D:=da [di o.kind,dS o.name,dS o.text,di o.time,di o.a,di o.b]
structure An where
 err:Int
 n:Int
 text:ByteArray
 file:Fl
 nn:Bool
 names:List ByteArray
def An.enc (a:An):D:=da [di a.err,di a.n,dS a.text,a.file.enc,dl a.nn (a.names.map dS)]
def zeroF:Fl:=⟨0,bs [],bs [],false,0,false,[]⟩
def zeroEv:Ev:=⟨0,0,bs [],0,0,zeros⟩
def wrongA (e:Int):An:=⟨e,0,bs [],zeroF,false,[]⟩
def appendF (f:Fl) (s:ByteArray):Fl×Int:=
 if f.sealed=true then (f,5) else if s=bs [] then (f,1) else if 600<f.data.size+s.size then (f,10) else ({ f with data:=f.data++s },0)
def readF (f:Fl) (a b:Int):ByteArray×Int:=
 if a<0 then (bs [],1) else if b<a then (bs [],1) else if (f.data.size:Int)<b then (bs [],1) else (f.data.extract a.toNat b.toNat,0)
def metaF (f:Fl):Fl:={ f with data:=bs [] }
def newF (id:Int) (s:ByteArray):Fl×Int:=
 if nameB s=false then (zeroF,2) else if 1≤id∧id≤1099511627776 then (⟨id,s,bs [],false,0,false,[]⟩,0) else (zeroF,1)
def deedF (f:Fl) (o:Mo) (floor:Int):Fl×Int:=
 if o.kind=0 then (f,4)
 else if o.kind=1 then appendF f o.text
 else if o.kind=2 then sealF f o.time
 else if o.kind=3 then extendF f o.time
 else if o.kind=4 then holdF f o.text
 else if o.kind=5 then releaseF f o.text
 else if o.kind=6 then (zeroF,mayN f floor)
 else (f,1)
def tellE (sum:ByteArray→List Int) (f:Fl) (o:Mo):Ev:=
 ⟨o.kind,f.id,if o.kind=4∨o.kind=5 then o.text else bs [],if o.kind=2∨o.kind=3 then o.time else 0,
  if o.kind=1 then (o.text.size:Int) else if o.kind=2 then (f.data.size:Int) else 0,if o.kind=2 then sum f.data else zeros⟩
def fileDo (sum:ByteArray→List Int) (f:Fl) (o:Mo) (floor:Int):Fl×Ev×Int:=
 if (deedF f o floor).2=0 then ((deedF f o floor).1,tellE sum f o,0) else (f,zeroEv,(deedF f o floor).2)
structure Res where
 st:St
 an:An
 nn:Bool
 evs:List Ev
def findM (s:St) (n:ByteArray):Option Nat:=s.files.findIdx? fun f=>decide (f.name=n)
def stay (s:St) (e:Int):Res:=⟨s,wrongA e,false,[]⟩
def createM (s:St) (o:Mo):Res:=
 if nameB o.name=false then stay s 2
 else if 0≤findI (fun f:Fl=>decide (f.name=o.name)) s.files then stay s 4
 else if 12≤s.files.length then stay s 10
 else if 1099511627776≤s.last then stay s 10
 else ⟨⟨true,s.files++[⟨s.last+1,o.name,bs [],false,0,false,[]⟩],s.last+1,s.floor⟩,⟨0,s.last+1,bs [],zeroF,false,[]⟩,true,[⟨0,s.last+1,o.name,0,0,zeros⟩]⟩
def changeM (sum:ByteArray→List Int) (s:St) (o:Mo):Res:=
 match findM s o.name with
 | none=>stay s 3
 | some i=>match s.files[i]? with
  | none=>stay s 3
  | some f=>if (fileDo sum f o s.floor).2.2=0 then
    if o.kind=6 then ⟨{ s with files:=s.files.eraseIdx i },⟨0,(fileDo sum f o s.floor).2.1.id,bs [],zeroF,false,[]⟩,true,[(fileDo sum f o s.floor).2.1]⟩
    else ⟨{ s with files:=s.files.set i (fileDo sum f o s.floor).1 },⟨0,((fileDo sum f o s.floor).1.data.size:Int),bs [],zeroF,false,[]⟩,true,[(fileDo sum f o s.floor).2.1]⟩
   else stay s (fileDo sum f o s.floor).2.2
def floorN (floor t:Int):Int:=max floor (min (max t 0) 1099511627776)
def tickM (s:St) (o:Mo):Res:=
 if floorN s.floor o.time=s.floor then ⟨s,⟨0,s.floor,bs [],zeroF,false,[]⟩,false,[]⟩
 else ⟨{ s with floor:=floorN s.floor o.time },⟨0,floorN s.floor o.time,bs [],zeroF,false,[]⟩,true,[⟨7,0,bs [],floorN s.floor o.time,0,zeros⟩]⟩
def dueL (l:List Fl) (floor:Int):List Int:=(l.filter fun f=>decide (mayN f floor=0)).map (·.id)
def delEv (id:Int):Ev:=⟨6,id,bs [],0,0,zeros⟩
def sweepM (s:St):Res:=
 ⟨{ s with files:=s.files.filter fun f=>!decide (mayN f s.floor=0) },⟨0,((dueL s.files s.floor).length:Int),bs [],zeroF,false,[]⟩,!(dueL s.files s.floor).isEmpty,(dueL s.files s.floor).map delEv⟩
def readM (s:St) (o:Mo):Res:=
 match findM s o.name with
 | none=>stay s 3
 | some i=>match s.files[i]? with
  | none=>stay s 3
  | some f=>⟨s,⟨(readF f o.a o.b).2,0,(readF f o.a o.b).1,zeroF,false,[]⟩,false,[]⟩
def statM (s:St) (o:Mo):Res:=
 match findM s o.name with
 | none=>stay s 3
 | some i=>match s.files[i]? with
  | none=>stay s 3
  | some f=>⟨s,⟨0,0,bs [],metaF f,false,[]⟩,false,[]⟩
def insN (x:ByteArray):List ByteArray→List ByteArray
 | []=>[x]
 | y::l=>if lessB x y=true then x::y::l else y::insN x l
def sortN (l:List ByteArray):List ByteArray:=l.foldl (fun acc x=>insN x acc) []
def listM (s:St):Res:=⟨s,⟨0,0,bs [],zeroF,!s.files.isEmpty,sortN (s.files.map (·.name))⟩,false,[]⟩
def doM (sum:ByteArray→List Int) (s:St) (o:Mo):Res:=
 if o.kind<0 then stay s 1
 else if 12≤o.kind then stay s 1
 else if o.kind=0 then createM s o
 else if o.kind=7 then tickM s o
 else if o.kind=8 then sweepM s
 else if o.kind=9 then readM s o
 else if o.kind=10 then statM s o
 else if o.kind=11 then listM s
 else changeM sum s o
def riseB (l:List ByteArray):Prop:=l.Pairwise fun a b=>lessB a b=true
structure FlOk (f:Fl) (last:Int):Prop where
 id0:1≤f.id
 id1:f.id≤last
 name:nameB f.name=true
 nsz:f.name.size≤1000
 data:f.data.size≤600
 until0:0≤f.until_
 until1:f.until_≤1099511627776
 hold:f.holds.length≤4
 hsz:∀s∈f.holds,s.size≤1000
 hname:∀s∈f.holds,nameB s=true
 rise:riseB f.holds
 nil:f.nn=false→f.holds=[]
 opn:f.sealed=false→f.until_=0∧f.holds=[]
structure StOk (s:St):Prop where
 len:s.files.length≤12
 nil:s.nn=false→s.files=[]
 last0:0≤s.last
 last1:s.last≤1099511627776
 floor0:0≤s.floor
 floor1:s.floor≤1099511627776
 files:∀f∈s.files,FlOk f s.last
 rise:s.files.Pairwise fun a b=>a.id<b.id
 names:s.files.Pairwise fun a b=>a.name≠b.name
structure MoOk (o:Mo):Prop where
 kind:i64ok o.kind
 time:i64ok o.time
 a:i64ok o.a
 b:i64ok o.b
 name:o.name.size≤1000
 text:o.text.size≤1000
end Go.AM.SZ
namespace Go.AM.SZ
open Go Go.AM
theorem lexB_irrefl:∀l:List Int,lexB l l=false
 | []=>rfl
 | x::l=>by simp only[lexB,if_true];exact lexB_irrefl l
theorem lexB_trans:∀{a b c:List Int},lexB a b=true→lexB b c=true→lexB a c=true
 | [],[],_,h,_=>by simp[lexB] at h
 | [],_::_,[],_,h=>by simp[lexB] at h
 | [],_::_,_::_,_,_=>rfl
 | _::_,[],_,h,_=>by simp[lexB] at h
 | _::_,_::_,[],_,h=>by simp[lexB] at h
 | x::a,y::b,z::c,h1,h2=>by
  simp only[lexB] at h1 h2 ⊢
  split at h1
  ·subst x
   split at h2
   ·subst y;rw[if_pos rfl];exact lexB_trans h1 h2
   ·rename_i h;rw[if_neg h];exact h2
  ·split at h2
   ·subst y;rename_i h;rw[if_neg h];exact h1
   ·simp only[decide_eq_true_eq] at h1 h2
    rw[if_neg (by omega)]
    simp only[decide_eq_true_eq];omega
theorem lexB_tri:∀a b:List Int,lexB a b=true∨a=b∨lexB b a=true
 | [],[]=>.inr (.inl rfl)
 | [],_::_=>.inl rfl
 | _::_,[]=>.inr (.inr rfl)
 | x::a,y::b=>by
  simp only[lexB]
  by_cases h:x=y
  ·subst h
   simp only[if_true]
   rcases lexB_tri a b with h | h | h
   ·exact .inl h
   ·subst h;exact .inr (.inl rfl)
   ·exact .inr (.inr h)
  ·rw[if_neg h,if_neg (by omega)]
   simp only[decide_eq_true_eq]
   omega
theorem dec_L (s:ByteArray) (p:Nat):Lib.decodeL (s.data.toList.drop p)=Utf8.decode s p:=by
 have e:(⟨(s.data.toList.drop p).toArray⟩:ByteArray)=s.extract p s.size:=by
  apply ByteArray.ext
  apply Array.toList_inj.1
  simp
  exact(List.take_of_length_le (by rw[List.length_drop,Array.length_toList];exact Nat.le_refl _)).symm
 unfold Lib.decodeL
 rw[e,Lib.tail_decode,Nat.add_zero]
theorem dec_top (s:ByteArray) (p:Nat):(Utf8.decode s p).1≤1114111:=by
 rw[←dec_L,Lib.decodeL_N]
 have k0:=((s.data.toList.drop p).getD 0 0).toNat_lt
 rcases Lib.decodeN_shape (s.data.toList.drop p).length ((s.data.toList.drop p).getD 0 0).toNat ((s.data.toList.drop p).getD 1 0).toNat ((s.data.toList.drop p).getD 2 0).toNat ((s.data.toList.drop p).getD 3 0).toNat with ⟨c,e⟩ | ⟨c1,c2,c3,cv,e⟩ | ⟨c1,c2,c3,c4,cv,cs,e⟩ | ⟨c1,c2,c3,c4,c5,cv,cw,e⟩ | e
 all_goals rw[e];dsimp only;omega
def chunk (k:Int):List UInt8:=if 1114112≤k then [UInt8.ofNat (k-1114112).toNat] else Lib.encodeRune k
theorem key_chunk {s:ByteArray} {p:Nat} (h:p<s.size):(s.data.toList.drop p).take (Utf8.decode s p).2=chunk (keyR s (p,(Utf8.decode s p).1)):=by
 have hp:=decode_pos s p
 have ht:=dec_top s p
 have hl:0<(s.data.toList.drop p).length:=by
  have:s.data.toList.length=s.size:=by simp
  rw[List.length_drop];omega
 unfold keyR chunk
 by_cases hb:(Utf8.decode s p).1=65533∧(Utf8.decode s p).2<2
 ·have hr:=byteAt_range s p
  rw[if_pos hb,if_pos (by dsimp only;omega),show (Utf8.decode s p).2=1 by omega,Lib.takeA _ hl]
  congr 1
  have e:(1114112+byteAt s p-1114112).toNat=(s.data.toList.getD p 0).toNat:=by unfold byteAt;omega
  dsimp only
  rw[e]
  have:(List.drop p s.data.toList).getD 0 0=s.data.toList.getD p 0:=by simp[List.getD_eq_getElem?_getD]
  rw[this];simp
 ·rw[if_neg hb,if_neg (by dsimp only;omega)]
  have:=Lib.encode_decode (s.data.toList.drop p) (List.length_pos_iff.1 hl) (by rw[dec_L];omega)
  rw[dec_L] at this
  exact this.symm
theorem keys_inj_from {s t:ByteArray}:∀(n p q:Nat),s.size-p≤n→(runesFrom s p).map (keyR s)=(runesFrom t q).map (keyR t)→s.data.toList.drop p=t.data.toList.drop q:=by
 have ls:s.data.toList.length=s.size:=by simp
 have lt:t.data.toList.length=t.size:=by simp
 intro n
 induction n with
 | zero=>
  intro p q hn h
  rw[runesFrom_end (by omega)] at h
  by_cases hq:q<t.size
  ·rw[runesFrom_step hq] at h;simp at h
  ·rw[List.drop_of_length_le (by omega),List.drop_of_length_le (by omega)]
 | succ n ih=>
  intro p q hn h
  by_cases hp:p<s.size
  ·by_cases hq:q<t.size
   ·rw[runesFrom_step hp,runesFrom_step hq] at h
    simp only[List.map_cons,List.cons.injEq] at h
    have h1:=decode_pos s p
    have:=ih (p+(Utf8.decode s p).2) (q+(Utf8.decode t q).2) (by omega) h.2
    rw[←List.drop_drop,←List.drop_drop] at this
    have e1:=key_chunk hp
    have e2:=key_chunk hq
    rw[h.1] at e1
    rw[←List.take_append_drop (Utf8.decode s p).2 (s.data.toList.drop p),e1,this,←e2,List.take_append_drop]
   ·rw[runesFrom_step hp,runesFrom_end (s:=t) (by omega)] at h;simp at h
  ·rw[runesFrom_end (by omega)] at h
   by_cases hq:q<t.size
   ·rw[runesFrom_step hq] at h;simp at h
   ·rw[List.drop_of_length_le (by omega),List.drop_of_length_le (by omega)]
theorem keys_inj {s t:ByteArray} (h:keys s=keys t):s=t:=by
 have:=keys_inj_from (s:=s) (t:=t) s.size 0 0 (by omega) (by simpa[keys,runes,runesFrom] using h)
 apply ByteArray.ext
 apply Array.toList_inj.1
 simpa using this
theorem less_irrefl (a:ByteArray):lessB a a=false:=lexB_irrefl _
theorem less_trans {a b c:ByteArray} (h1:lessB a b=true) (h2:lessB b c=true):lessB a c=true:=lexB_trans h1 h2
theorem less_tri (a b:ByteArray):lessB a b=true∨a=b∨lessB b a=true:=by
 rcases lexB_tri (keys a) (keys b) with h | h | h
 ·exact .inl h
 ·exact .inr (.inl (keys_inj h))
 ·exact .inr (.inr h)
theorem less_of_not {a b:ByteArray} (h:lessB a b=false) (hn:a≠b):lessB b a=true:=by
 rcases less_tri a b with h' | h' | h'
 ·rw[h] at h';simp at h'
 ·exact absurd h' hn
 ·exact h'
theorem insH_rise {s:ByteArray} {l:List ByteArray} (h:riseB l) (hs:hasB l s=false):riseB (insH s l):=by
 have hne:∀y∈l,s≠y:=by
  intro y hy
  simp only[hasB,List.any_eq_false,decide_eq_true_eq] at hs
  exact hs y hy
 unfold insH
 unfold riseB at h ⊢
 cases hx:l.findIdx? (fun y=>!lessB y s) with
 | none=>
  dsimp only
  rw[List.findIdx?_eq_none_iff] at hx
  rw[List.pairwise_append]
  refine⟨h,by simp,fun a ha b hb=>?_⟩
  simp only[List.mem_singleton] at hb
  subst hb
  simpa using hx a ha
 | some i=>
  dsimp only
  rw[List.findIdx?_eq_some_iff_getElem] at hx
  obtain⟨hi,h1,h2⟩:=hx
  have hat:lessB s l[i]=true:=less_of_not (by simpa using h1) (fun e=>hne _ (List.getElem_mem hi) e.symm)
  have hd:∀b∈l.drop i,lessB s b=true:=by
   intro b hb
   rw[List.drop_eq_getElem_cons hi,List.mem_cons] at hb
   rcases hb with rfl | hb
   ·exact hat
   ·have hp:=h.sublist (List.drop_sublist i l)
    rw[List.drop_eq_getElem_cons hi,List.pairwise_cons] at hp
    exact less_trans hat (hp.1 b hb)
  have ht:∀a∈l.take i,lessB a s=true:=by
   intro a ha
   obtain⟨j,hj,rfl⟩:=List.getElem_of_mem ha
   simp only[List.length_take] at hj
   have:=h2 j (by omega)
   simpa using this
  have hmix:∀a∈l.take i,∀b∈l.drop i,lessB a b=true:=fun a ha b hb=>less_trans (ht a ha) (hd b hb)
  rw[List.pairwise_append,List.pairwise_append]
  refine⟨⟨h.sublist (List.take_sublist i l),by simp,fun a ha b hb=>?_⟩,h.sublist (List.drop_sublist i l),fun a ha b hb=>?_⟩
  ·simp only[List.mem_singleton] at hb;subst hb;exact ht a ha
  ·simp only[List.mem_append,List.mem_singleton] at ha
   rcases ha with ha | rfl
   ·exact hmix a ha b hb
   ·exact hd b hb
theorem insN_perm (x:ByteArray):∀l,(insN x l).Perm (x::l)
 | []=>List.Perm.refl _
 | y::l=>by
  unfold insN
  split
  ·exact List.Perm.refl _
  ·exact((insN_perm x l).cons y).trans (List.Perm.swap x y l)
theorem insN_rise {x:ByteArray}:∀{l:List ByteArray},riseB l→x∉l→riseB (insN x l)
 | [],_,_=>by simp[insN,riseB]
 | y::l,h,hx=>by
  unfold insN
  unfold riseB at h ⊢
  simp only[List.mem_cons,not_or] at hx
  split
  ·rename_i hl
   rw[List.pairwise_cons]
   refine⟨fun b hb=>?_,h⟩
   rcases List.mem_cons.1 hb with rfl | hb
   ·exact hl
   ·exact less_trans hl ((List.pairwise_cons.1 h).1 b hb)
  ·rename_i hl
   have hyx:=less_of_not (by simpa using hl) hx.1
   rw[List.pairwise_cons] at h ⊢
   refine⟨fun b hb=>?_,insN_rise h.2 hx.2⟩
   rcases List.mem_cons.1 ((insN_perm x l).mem_iff.1 hb) with rfl | hb
   ·exact hyx
   ·exact h.1 b hb
theorem sortN_go:∀(l acc:List ByteArray),(l.foldl (fun acc x=>insN x acc) acc).Perm (l++acc)∧(riseB acc→(l++acc).Nodup→riseB (l.foldl (fun acc x=>insN x acc) acc))
 | [],acc=>⟨List.Perm.refl _,fun h _=>h⟩
 | x::l,acc=>by
  obtain⟨h1,h2⟩:=sortN_go l (insN x acc)
  have hp:(l++insN x acc).Perm (x::l++acc):=((insN_perm x acc).append_left l).trans List.perm_middle
  refine⟨h1.trans hp,fun hr hn=>h2 (insN_rise hr ?_) (hp.nodup_iff.2 hn)⟩
  simp only[List.cons_append,List.nodup_cons,List.mem_append,not_or] at hn
  exact hn.1.2
theorem sortN_perm (l:List ByteArray):(sortN l).Perm l:=by simpa[sortN] using (sortN_go l []).1
theorem sortN_rise {l:List ByteArray} (h:l.Nodup):riseB (sortN l):=(sortN_go l []).2 List.Pairwise.nil (by simpa using h)
theorem rise_eq:∀{a b:List ByteArray},riseB a→riseB b→a.Perm b→a=b
 | [],b,_,_,h=>by simpa using h.symm.eq_nil
 | x::a,[],_,_,h=>by simpa using h.eq_nil
 | x::a,y::b,ha,hb,h=>by
  have ha':=List.pairwise_cons.1 ha
  have hb':=List.pairwise_cons.1 hb
  have hxy:x=y:=by
   rcases List.mem_cons.1 (h.mem_iff.1 (List.mem_cons_self ..)) with e | hx
   ·exact e
   rcases List.mem_cons.1 (h.mem_iff.2 (List.mem_cons_self ..)) with e | hy
   ·exact e.symm
   have:=less_trans (hb'.1 x hx) (ha'.1 y hy)
   rw[less_irrefl] at this;simp at this
  subst hxy
  rw[rise_eq ha'.2 hb'.2 (List.Perm.cons_inv h)]
end Go.AM.SZ
namespace Go.AM.SZ
open Go Go.AM
theorem FlOk.mono {f:Fl} {a b:Int} (h:FlOk f a) (hab:a≤b):FlOk f b:={ h with id1:=by have:=h.id1;omega }
theorem deed_keeps {f:Fl} {o:Mo} {floor last:Int} (hf:FlOk f last) (ho:MoOk o) (h0:(deedF f o floor).2=0) (h6:o.kind≠6) :
  (deedF f o floor).1.id=f.id∧(deedF f o floor).1.name=f.name∧FlOk (deedF f o floor).1 last:=by
 unfold deedF at h0 ⊢
 by_cases k0:o.kind=0
 ·rw[if_pos k0] at h0;simp at h0
 rw[if_neg k0] at h0 ⊢
 by_cases k1:o.kind=1
 ·rw[if_pos k1] at h0 ⊢
  unfold appendF at h0 ⊢
  split at h0
  ·simp at h0
  split at h0
  ·simp at h0
  split at h0
  ·simp at h0
  rename_i h1 h2 h3
  rw[if_neg h1,if_neg h2,if_neg h3]
  refine⟨rfl,rfl,{ hf with data:=?_ }⟩
  show (f.data++o.text).size≤600
  rw[ByteArray.size_append];omega
 rw[if_neg k1] at h0 ⊢
 by_cases k2:o.kind=2
 ·rw[if_pos k2] at h0 ⊢
  unfold sealF at h0 ⊢
  split at h0
  ·simp at h0
  split at h0
  ·simp at h0
  rename_i h1 h2
  rw[if_neg h1,if_neg h2]
  simp only[timely,Bool.not_eq_false,Bool.and_eq_true,decide_eq_true_eq] at h2
  exact⟨rfl,rfl,{ hf with until0:=h2.1,until1:=h2.2,opn:=fun h=>by simp at h }⟩
 rw[if_neg k2] at h0 ⊢
 by_cases k3:o.kind=3
 ·rw[if_pos k3] at h0 ⊢
  unfold extendF at h0 ⊢
  split at h0
  ·simp at h0
  split at h0
  ·simp at h0
  split at h0
  ·simp at h0
  rename_i h1 h2 h3
  rw[if_neg h1,if_neg h2,if_neg h3]
  simp only[timely,Bool.not_eq_false,Bool.and_eq_true,decide_eq_true_eq] at h2
  exact⟨rfl,rfl,{ hf with until0:=h2.1,until1:=h2.2,opn:=fun h=>absurd h h1 }⟩
 rw[if_neg k3] at h0 ⊢
 by_cases k4:o.kind=4
 ·rw[if_pos k4] at h0 ⊢
  unfold holdF at h0 ⊢
  repeat' split at h0
  all_goals first | (simp at h0;done) | skip
  rename_i g1 g2 g3 g4
  rw[if_neg g1,if_neg g2,if_neg g3,if_neg g4]
  refine⟨rfl,rfl,{ hf with hold:=?_,hsz:=?_,hname:=?_,rise:=?_,nil:=by simp,opn:=fun h=>absurd h g1 }⟩
  ·show (insH _ _).length≤4
   rw[insH_len];omega
  ·intro s hs
   rcases insH_mem hs with rfl | hs
   ·exact ho.text
   ·exact hf.hsz s hs
  ·intro s hs
   rcases insH_mem hs with rfl | hs
   ·simpa using g2
   ·exact hf.hname s hs
  ·exact insH_rise hf.rise (by simpa using g3)
 rw[if_neg k4] at h0 ⊢
 by_cases k5:o.kind=5
 ·rw[if_pos k5] at h0 ⊢
  unfold releaseF at h0 ⊢
  split at h0
  ·rename_i i hi
   have hsub:=List.eraseIdx_sublist f.holds i
   refine⟨rfl,rfl,{ hf with hold:=Nat.le_trans hsub.length_le hf.hold,hsz:=fun s hs=>hf.hsz s (hsub.mem hs),hname:=fun s hs=>hf.hname s (hsub.mem hs),rise:=hf.rise.sublist hsub,nil:=fun h=>?_,opn:=fun h=>⟨(hf.opn h).1,?_⟩ }⟩
   ·show f.holds.eraseIdx i=[]
    rw[hf.nil h];rfl
   ·show f.holds.eraseIdx i=[]
    rw[(hf.opn h).2];rfl
  ·simp at h0
 rw[if_neg k5,if_neg h6] at h0
 simp at h0
theorem findM_is {s:St} {n:ByteArray} {i:Nat} (h:findM s n=some i):∃hi:i<s.files.length,s.files[i].name=n:=by
 obtain⟨hi,h⟩:=findIdx_is h
 exact⟨hi,by simpa using h⟩
theorem pairwise_set {α:Type} {R:α→α→Prop} {l:List α} {i:Nat} {x:α} (hi:i<l.length) (h:l.Pairwise R) (h1:∀a,R a l[i]→R a x) (h2:∀a,R l[i] a→R x a):(l.set i x).Pairwise R:=by
 rw[List.pairwise_iff_getElem] at h ⊢
 intro a b ha hb hab
 simp only[List.length_set] at ha hb
 have:=h a b ha hb hab
 simp only[List.getElem_set]
 split
 ·rename_i e;subst e
  rw[if_neg (by omega)]
  exact h2 _ this
 ·split
  ·rename_i e;subst e;exact h1 _ this
  ·exact this
theorem create_ok {s:St} {o:Mo} (hs:StOk s) (ho:MoOk o):StOk (createM s o).st:=by
 unfold createM
 split
 ·exact hs
 split
 ·exact hs
 split
 ·exact hs
 split
 ·exact hs
 rename_i h1 h2 h3 h4
 have l0:=hs.last0
 have hnew:FlOk ⟨s.last+1,o.name,bs [],false,0,false,[]⟩ (s.last+1):=
  {id0:=by show 1≤s.last+1;omega,id1:=Int.le_refl _,name:=by simpa using h1,nsz:=ho.name,data:=by show (bs []).size≤600;decide,until0:=by simp,until1:=by simp,hold:=by simp,hsz:=by simp,hname:=by simp,rise:=List.Pairwise.nil,nil:=fun _=>rfl,opn:=fun _=>⟨rfl,rfl⟩ }
 have hno:∀f∈s.files,f.name≠o.name:=by
  intro f hf e
  refine h2 (findI_nonneg.2 ?_)
  simp only[List.any_eq_true,decide_eq_true_eq]
  exact⟨f,hf,e⟩
 refine { len:=by simp;omega,nil:=by simp,last0:=by show 0≤s.last+1;omega,last1:=by show s.last+1≤_;omega,floor0:=hs.floor0,floor1:=hs.floor1,files:=?_,rise:=?_,names:=?_ }
 ·intro f hf
  simp only[List.mem_append,List.mem_singleton] at hf
  rcases hf with hf | rfl
  ·exact(hs.files f hf).mono (by show s.last≤s.last+1;omega)
  ·exact hnew
 ·rw[List.pairwise_append]
  refine⟨hs.rise,by simp,fun a ha b hb=>?_⟩
  simp only[List.mem_singleton] at hb;subst hb
  have:=(hs.files a ha).id1
  show a.id<s.last+1
  omega
 ·rw[List.pairwise_append]
  refine⟨hs.names,by simp,fun a ha b hb=>?_⟩
  simp only[List.mem_singleton] at hb;subst hb
  exact hno a ha
theorem erase_ok {s:St} (hs:StOk s) {l:List Fl} (hl:l.Sublist s.files):StOk { s with files:=l }:=
 {len:=Nat.le_trans hl.length_le hs.len
  nil:=fun h=>by have:=hs.nil h;rw[this] at hl;exact List.sublist_nil.1 hl
  last0:=hs.last0,last1:=hs.last1,floor0:=hs.floor0,floor1:=hs.floor1
  files:=fun f hf=>hs.files f (hl.mem hf)
  rise:=hs.rise.sublist hl,names:=hs.names.sublist hl }
theorem change_ok {sum:ByteArray→List Int} {s:St} {o:Mo} (hs:StOk s) (ho:MoOk o):StOk (changeM sum s o).st:=by
 unfold changeM
 split
 ·exact hs
 rename_i i hi
 split
 ·exact hs
 rename_i f hf
 obtain⟨hl,rfl⟩:=List.getElem?_eq_some_iff.1 hf
 split
 ·rename_i h0
  split
  ·exact erase_ok hs (List.eraseIdx_sublist s.files i)
  ·rename_i h6
   have hd:(deedF s.files[i] o s.floor).2=0:=by
    unfold fileDo at h0
    split at h0
    ·assumption
    ·exact h0
   obtain⟨e1,e2,e3⟩:=deed_keeps (hs.files _ (List.getElem_mem hl)) ho hd h6
   have hfd:(fileDo sum s.files[i] o s.floor).1=(deedF s.files[i] o s.floor).1:=by unfold fileDo;rw[if_pos hd]
   rw[hfd]
   refine { len:=by simpa using hs.len,nil:=fun h=>?_,last0:=hs.last0,last1:=hs.last1,floor0:=hs.floor0,floor1:=hs.floor1,files:=fun f hf=>?_,rise:=?_,names:=?_ }
   ·exact absurd hl (by rw[hs.nil h];simp)
   ·rcases List.mem_or_eq_of_mem_set hf with hf | rfl
    ·exact hs.files f hf
    ·exact e3
   ·exact pairwise_set hl hs.rise (fun a h=>by rw[e1];exact h) (fun a h=>by rw[e1];exact h)
   ·exact pairwise_set hl hs.names (fun a h=>by rw[e2];exact h) (fun a h=>by rw[e2];exact h)
 ·exact hs
theorem floorN_range {f t:Int} (h0:0≤f) (h1:f≤1099511627776):f≤floorN f t∧floorN f t≤1099511627776:=by
 unfold floorN;omega
theorem tick_ok {s:St} {o:Mo} (hs:StOk s):StOk (tickM s o).st:=by
 unfold tickM
 split
 ·exact hs
 ·have:=floorN_range (t:=o.time) hs.floor0 hs.floor1
  have h0:=hs.floor0
  exact { hs with floor0:=by show 0≤floorN _ _;omega,floor1:=this.2 }
theorem do_ok {sum:ByteArray→List Int} {s:St} {o:Mo} (hs:StOk s) (ho:MoOk o):StOk (doM sum s o).st:=by
 unfold doM
 repeat' split
 ·exact hs
 ·exact hs
 ·exact create_ok hs ho
 ·exact tick_ok hs
 ·exact erase_ok hs (List.filter_sublist)
 ·unfold readM;repeat' split
  all_goals exact hs
 ·unfold statM;repeat' split
  all_goals exact hs
 ·exact hs
 ·exact change_ok hs ho
structure Run where
 st:St
 nnA:Bool
 ans:List An
 nnE:Bool
 evs:List Ev
def runFrom (sum:ByteArray→List Int):List Mo→Run→Run
 | [],r=>r
 | o::l,r=>runFrom sum l ⟨(doM sum r.st o).st,true,r.ans++[(doM sum r.st o).an],r.nnE||!(doM sum r.st o).evs.isEmpty,r.evs++(doM sum r.st o).evs⟩
def run0 (s:St):Run:=⟨s,false,[],false,[]⟩
def runM (sum:ByteArray→List Int) (s:St) (l:List Mo):Run:=runFrom sum l (run0 s)
def emptyS:St:=⟨false,[],0,0⟩
theorem emptyS_ok:StOk emptyS:=⟨by simp[emptyS],fun _=>rfl,by simp[emptyS],by simp[emptyS],by simp[emptyS],by simp[emptyS],by simp[emptyS],List.Pairwise.nil,List.Pairwise.nil⟩
theorem runFrom_ok {sum:ByteArray→List Int}:∀{l:List Mo} {r:Run},StOk r.st→(∀o∈l,MoOk o)→StOk (runFrom sum l r).st
 | [],_,h,_=>h
 | o::l,r,h,hl=>runFrom_ok (l:=l) (do_ok h (hl o (by simp))) fun o' h'=>hl o' (by simp[h'])
end Go.AM.SZ
namespace Go.AM.SZ
open Go Go.AM
@[simp] theorem bs_size:(bs []).size=0:=rfl
@[simp] theorem ba_beq (a:ByteArray):(a==a)=true:=by
 cases a;rename_i d
 show (d==d)=true
 simp
end Go.AM.SZ
namespace Go.AM.SZ
open Go Go.AM
end Go.AM.SZ
