/- Part 7 of the proof: the abstract machine, what the functions compute, and plain laws over that. -/
import Derived.Test.YtonknblidjpfeaaGreatDoorRa6
import Derived.Shelf.Unicode.DecodeAny
import Derived.Shelf.Spec.SlicesInsert
import Derived.Shelf.Spec.SlicesInsertGrow
import Derived.Test.YtonknblidjpfeaaGreatDoorProg
import Derived.KernelRfl
set_option linter.all false
set_option linter.unusedSimpArgs false
set_option linter.unusedVariables false
set_option linter.unusedSectionVars false
namespace Go.AM
open Go Go.RowKit Go.Proofs
section
variable {P:Program} {ρ:Go.Shelf.Ren} {ty:Nat→K} {cd:Cd} {I:World→Prop} {gl:Nat}
def decodeC:Con:={ run:=fun ds=>match ds with | [d]=>some (.tup [.int .i32 (Lib.decodeGo d.s).1,.int .i64 (Lib.decodeGo d.s).2]) | _=>none,plain:=true }
theorem decodeC_ok (L:Lays.n197 P ρ) (hI:∀w,I w→Lib.Utf8Tabs (ρ.g 3) (ρ.g 4) w) {fn:Func} {t5 t3:Nat} (hp:fn.params.toList.map ty=[.str]) (hr:fn.resultTypes.toList=[t5,t3]) (h5:ty t5 = .int .i32) (h3:ty t3 = .int .i64) :
  Contract P ty I (ρ.f 197) fn decodeC:=by
 intro X w ds xs r hIw hX hE hrun
 rw[hp] at hE
 match ds,hE with
 | [d],hE=>
  simp only[Each] at hE
  obtain⟨κ,κs',x,rest,he,rfl,hx,hn,rfl⟩:=hE
  simp only[List.cons.injEq] at he
  obtain⟨rfl,_⟩:=he
  have hs:=rep_str hx
  subst hs
  simp only[decodeC,Option.some.injEq] at hrun
  subst hrun
  refine(Any.utf8_DecodeRuneInString L d.s w (hI w hIw)).mono ?_
  rintro e w' ⟨rfl,hb⟩
  refine⟨_,rfl,hb,?_⟩
  have hpl:decodeC.plain=true:=rfl
  rw[if_pos hpl]
  intro M
  rw[hr]
  refine⟨_,_,rfl,rfl,?_⟩
  simp only[List.map_cons,List.map_nil,h5,h3,Each,Rep]
  exact⟨_,_,_,_,rfl,rfl,⟨rfl,rfl⟩,_,_,_,_,rfl,rfl,⟨rfl,rfl⟩,rfl,rfl⟩
 | [],hE=>simp[Each] at hE
 | d1::d2::ds,hE=>
  simp only[Each] at hE
  obtain⟨κ,κs',x,rest,he,rfl,hx,κ2,κs2,x2,r2,h2,_⟩:=hE
  rw[h2] at he
  simp at he
def insertX (e:Nat):Ext:=fun args H=>match args with
 | [s,.d (.int .i64) x,.sref b2 off2 len2]=>match H[b2]? with
  | some (.row e2 _ _ ds2)=>
    match s with
    | .sref b off len=>match H[b]? with
     | some (.row e1 true _ ds)=>
      some ((decide (e2=e)&&decide (0<len2))&&(decide (e1=e)&&decide (b≠b2)&&decide (0≤x.i)&&decide (x.i≤(len:Int))&&decide (len+len2≤maxLen)),
       .sref H.length 0 (len+len2),H.set b .dead++[.row e true true (((ds.drop off).take len).take x.i.toNat++(ds2.drop off2).take len2++((ds.drop off).take len).drop x.i.toNat)])
     | _=>none
    | .d (.slice e1) (.slice false [])=>some ((decide (e2=e)&&decide (0<len2))&&(decide (e1=e)&&decide (x.i=0)&&decide (len2≤maxLen)),.sref H.length 0 len2,H++[.row e true true ((ds2.drop off2).take len2)])
    | _=>none
  | _=>none
 | _=>none
theorem setCells_put {b:Nat} {et:Nat} {fz:Nat×Nat}:∀(vs:List Value) (o:Nat) (pre mid post:List Value) (w:World),w.heap[b]? = some (.cells (pre++mid++post).toArray et fz)→mid.length=vs.length→pre.length=o →
  w.setCells b o vs=putBlk w b (.cells (pre++vs++post).toArray et fz)
 | [],o,pre,mid,post,w,h,hm,hp=>by
  have:mid=[]:=by simpa using hm
  subst this
  rw[World.setCells,putBlk_same h]
 | v::vs,o,pre,mid,post,w,h,hm,hp=>by
  cases mid with
  | nil=>simp at hm
  | cons m mid=>
   have h1:=setCell_put (o:=o) (v:=v) h
   have h2:(pre++m::mid++post).toArray.setIfInBounds o v=((pre++[v])++mid++post).toArray:=by
    apply Array.toList_inj.1
    simp[List.set_append,←hp]
   rw[h2] at h1
   rw[World.setCells,h1]
   rw[setCells_put vs (o+1) (pre++[v]) mid post _ (by rw[putBlk_heap,if_pos ⟨rfl,lt_of_block h⟩]) (by simpa using hm) (by simp[hp])]
   simp[putBlk]
theorem below_da (w:World) (o:Obj):Below w.heap.size w (w.drew.alloc o):=
 ⟨rfl,rfl,rfl,by show w.heap.size≤(w.heap.push o).size;simp,fun k hk=>by show (w.heap.push o)[k]? = _;rw[Array.getElem?_push,if_neg (by omega)]⟩
theorem heap_da (w:World) (o:Obj):(w.drew.alloc o).heap[w.heap.size]? = some o:=by show (w.heap.push o)[w.heap.size]? = _;simp
theorem oneCell_of_scal {v:Value} (h:AM.scal v=true):v.oneCell'=true:=by cases v<;>simp_all [AM.scal,Value.oneCell']
theorem insertX_ok (T:TyOk P ty) (L:Lays2.n22 P ρ) {e:Nat} (he:ty e = .str) (h9:ty (ρ.t 9) = .str):ExtOk P ty I gl (ρ.f 22) (insertX e):=by
 intro cd X B0 w0 μ H w args v H' xs _ _ h hargs hrun
 have hone:P.cellsOf e=1:=by rw[T.szOk e (by rw[he];simp),he];rfl
 have hne:ty e≠.bad:=by rw[he];simp
 unfold insertX at hrun
 split at hrun
 ·rename_i s x b2 off2 len2
  simp only[RVt] at hargs
  obtain⟨sv,_,rfl,hs,iv,_,rfl,hi,vv,_,rfl,hv,rfl⟩:=hargs
  replace hi:=hi.resolve_left (by simp)
  obtain⟨_,hi⟩:=hi
  simp only[RV] at hi
  have hiv:=rep_int (hi.1▸hi.2)
  replace hv:=hv.resolve_left (by simp)
  obtain⟨_,hv⟩:=hv
  simp only[RV] at hv
  obtain⟨l2,n2,e2,hμ2,hl2,_,hlen2,hv⟩:=hv
  split at hrun
  ·rename_i e2x own2 nn2 ds2 hH2
   obtain⟨rfl,rfl⟩:=row_loc h hH2 hμ2 hl2
   have hobj2:=h.obj b2 l2 _ hμ2 hH2
   have hc2:e2=e∧0<len2:=by
    split at hrun
    ·split at hrun
     ·simp only[Option.some.injEq,Prod.mk.injEq,Bool.and_eq_true,decide_eq_true_eq] at hrun
      exact hrun.1.1
     ·simp at hrun
    ·simp only[Option.some.injEq,Prod.mk.injEq,Bool.and_eq_true,decide_eq_true_eq] at hrun
     exact hrun.1.1
    ·simp at hrun
   obtain⟨rfl,hpos⟩:=hc2
   have hvirt2:l2.virt=false:=by
    rcases hv with ⟨_,h0,_⟩ | ⟨h0,_⟩ | ⟨h0,_⟩
    ·omega
    ·exact h0
    ·exact h0
   obtain⟨c2,hvv,hc21,hc22,hre2⟩:∃c,vv = .slice (some ⟨l2.blk,l2.base+off2*P.cellsOf e2,none⟩) len2 c∧len2≤c∧off2+c≤l2.cap∧ds2.length≤off2+c:=by
    rcases hv with ⟨h0,_⟩ | ⟨_,c,h1⟩ | ⟨_,h0,_⟩
    ·rw[hvirt2] at h0;simp at h0
    ·exact⟨c,h1⟩
    ·omega
   subst hvv
   simp only[ObjOk] at hobj2
   obtain⟨_,_,_,hobj2⟩:=hobj2
   rw[if_neg (by simp[hvirt2])] at hobj2
   obtain⟨_,hcap2,cs2,et2,fz2,pre2,mid2,post2,hb2,hcs2,hpre2,hrep2,hpost2,hfz2,_⟩:=hobj2
   obtain⟨p1,vs,p2,e2a,l2a,l2b,hvs,_,_⟩:=Reps.drop_take T.szOk hne hrep2 hlen2
   rw[hone] at l2a l2b
   simp only[Nat.mul_one] at l2a l2b
   have hvsc:∀v∈vs,v.oneCell'=true:=fun v hv=>oneCell_of_scal (Reps.scal _ _ _ _ hvs v hv)
   have hvcell:∀(w':World),w'.heap[l2.blk]? = w.heap[l2.blk]?→∀(j:Nat) (v:Value),vs[j]? = some v→w'.cell? ⟨l2.blk,l2.base+off2*P.cellsOf e2+j,none⟩=some v:=by
    intro w' hw' j v hj
    rw[cell_congr hw']
    have:=block_cells hb2 (c1:=pre2++p1) (y:=vs) (c2:=p2++post2) (by rw[hcs2,e2a];simp) j v hj
    simpa[hpre2,l2a,hone,Nat.add_assoc] using this
   split at hrun
   ·rename_i b off len
    replace hs:=hs.resolve_left (by simp)
    obtain⟨_,hs⟩:=hs
    simp only[RV] at hs
    obtain⟨l,n,e1,hμ,hl,_,hlen,hs⟩:=hs
    split at hrun
    ·rename_i e1x nn ds hH
     obtain⟨rfl,rfl⟩:=row_loc h hH hμ hl
     simp only[Option.some.injEq,Prod.mk.injEq,Bool.and_eq_true,decide_eq_true_eq] at hrun
     obtain⟨⟨_,⟨⟨⟨rfl,hbb⟩,hx0⟩,hxl⟩,hmax⟩,hrun⟩:=hrun
     obtain⟨rfl,rfl⟩:=hrun
     unfold maxLen at hmax
     obtain⟨i,hxi⟩:∃i:Nat,x.i=(i:Int):=⟨x.i.toNat,by omega⟩
     rw[hxi] at hiv hxl
     rw[hxi]
     simp only[Int.toNat_natCast]
     subst hiv
     have hil:i≤len:=by omega
     have hobj:=h.obj b l _ hμ hH
     obtain⟨hd1,hd2⟩:=h.less hμ hH (o':=.dead) (by simp[ownB]) (by simp[usesB]) (fun _ _=>trivial)
     have hdl:(H.set b .dead).length=H.length:=by simp
     have hdlen:((ds.drop off).take len).length=len:=by simp;omega
     have hvlen:((ds2.drop off2).take len2).length=len2:=by simp;omega
     have hnew:(((ds.drop off).take len).take i++(ds2.drop off2).take len2++((ds.drop off).take len).drop i).length=len+len2:=by
      simp only[List.length_append,List.length_take,List.length_drop];omega
     have hgrow:∀(w':World) (cap:Nat) (mid post:List Value) (et:Nat),ty et=ty e1→Below w.heap.size w w'→w'.heap[w.heap.size]? = some (.cells (mid++post).toArray et (0,0)) →
       Reps ty (M_ X μ H w) (((ds.drop off).take len).take i++(ds2.drop off2).take len2++((ds.drop off).take len).drop i) (List.replicate (len+len2) (ty e1)) mid→len+len2≤cap∧cap≤maxInt→cap-(len+len2)≤post.length →
       ∃y μ',Ending.returned (.slice (some ⟨w.heap.size,0,none⟩) (len+len2) cap)=Ending.returned y∧HOk ty P.cellsOf cd X B0 w0 μ' (H.set b .dead++[.row e1 true true (((ds.drop off).take len).take i++(ds2.drop off2).take len2++((ds.drop off).take len).drop i)]) w' ∧
        RR ty P.cellsOf (M_ X μ' (H.set b .dead++[.row e1 true true (((ds.drop off).take len).take i++(ds2.drop off2).take len2++((ds.drop off).take len).drop i)]) w') μ' (.sref H.length 0 (len+len2)) y ∧
        Fut X B0 μ.length μ H w μ' (H.set b .dead++[.row e1 true true (((ds.drop off).take len).take i++(ds2.drop off2).take len2++((ds.drop off).take len).drop i)]) w':=by
      intro w' cap mid post et het1 hb hblk hreps hcap hpost
      obtain⟨g1,g2,g3⟩:=newRow_adopt hd1 hb (blk:=w.heap.size) (e:=e1) (cap:=cap) (et:=et) (fz:=(0,0)) (cs:=(mid++post).toArray) (ds:=((ds.drop off).take len).take i++(ds2.drop off2).take len2++((ds.drop off).take len).drop i) (mid:=mid) (post:=post)
       (Nat.le_refl _) hblk hne rfl (fun M' hM=>by rw[hnew];exact Reps.mono _ (Mem.le_trans hd2.mem hM) _ _ _ hreps) (by rw[hnew];exact hcap) (by rw[hnew,hone];omega) (by simp) (.inl het1)
      rw[hnew] at g1 g2 g3
      rw[hdl] at g3
      exact⟨_,_,rfl,g1,g3,⟨g2.loc,g2.len,Mem.le_trans hd2.mem g2.mem,g2.below,g2.dfr⟩⟩
     have hempty:∀(base:Option Addr),len=0→Calls P (ρ.f 22) #[.slice base 0 0,.int .i64 (0:Nat),.slice (some ⟨l2.blk,l2.base+off2*P.cellsOf e1,none⟩) len2 c2] w fun e w'=>∃y μ',e = .returned y∧HOk ty P.cellsOf cd X B0 w0 μ' (H.set b .dead++[.row e1 true true (((ds.drop off).take len).take i++(ds2.drop off2).take len2++((ds.drop off).take len).drop i)]) w' ∧
        RR ty P.cellsOf (M_ X μ' (H.set b .dead++[.row e1 true true (((ds.drop off).take len).take i++(ds2.drop off2).take len2++((ds.drop off).take len).drop i)]) w') μ' (.sref H.length 0 (len+len2)) y ∧
        Fut X B0 μ.length μ H w μ' (H.set b .dead++[.row e1 true true (((ds.drop off).take len).take i++(ds2.drop off2).take len2++((ds.drop off).take len).drop i)]) w':=by
      intro base hl0
      subst hl0
      obtain rfl:i=0:=by omega
      refine(Any2.slices_Insert_string_end_grow L base 0 0 l2.blk (l2.base+off2*P.cellsOf e1) len2 c2 [] vs w hpos (Nat.le_refl _) (by omega) (by omega) rfl l2b (fun _=>rfl) (fun _ _ j v hj=>by simp at hj) (hvcell w rfl) hvsc).mono ?_
      rintro e w' ⟨rfl,rfl⟩
      have hcap:=cap_ge (0+len2) 0 (ρ.t 9) (w.tape w.drawn (.appendCap (0+len2) 0 (ρ.t 9)))
      have hcapm:=cap_le (0+len2) 0 (ρ.t 9) (w.tape w.drawn (.appendCap (0+len2) 0 (ρ.t 9))) (by unfold maxLen;omega)
      refine hgrow _ _ vs (Builtin.zeroCells (Value.string ⟨#[]⟩).cells (grownCap w (0+len2) 0 (ρ.t 9)-(0+len2))).toList (ρ.t 9) (h9.trans he.symm) (below_da _ _) ?_ ?_ ⟨hcap,hcapm⟩ (by simp[Builtin.zeroCells,Value.cells])
      ·rw[heap_da];simp
      ·simpa using hvs
     rcases hs with ⟨hvirt,hl0,a,rfl,ha⟩ | ⟨hvirt,c,rfl,hc,hoc,hreach⟩ | ⟨hvirt,hl0,hreach,ad,rfl⟩
     ·obtain rfl:i=0:=by omega
      exact hempty a hl0
     ·have hob:=hobj
      simp only[ObjOk] at hob
      obtain⟨_,hlnn,_,hob⟩:=hob
      rw[if_neg (by simp[hvirt])] at hob
      obtain⟨hnn,hcap,cs,et,fz,pre,mid,post,hb1,hcs,hpre,hrep,hpost,hfz,het⟩:=hob
      obtain⟨q1,os,q2,e1a,l1a,l1b,hos,_,hq2⟩:=Reps.drop_take T.szOk hne hrep hlen
      have hq2l:q2.length=ds.length-(off+len):=by
       have:=(Reps.size T.szOk _ _ _ hq2).2 (List.replicate (ds.length-(off+len)) e1) (by simp)
       simpa[hone] using this
      have hpl:l.cap-ds.length≤post.length:=by rw[hone] at hpost;omega
      rw[hone] at l1a l1b
      simp only[Nat.mul_one] at l1a l1b
      have hosc:∀v∈os,v.oneCell'=true:=fun v hv=>oneCell_of_scal (Reps.scal _ _ _ _ hos v hv)
      have hblk:w.heap[l.blk]? = some (.cells ((pre++q1)++os++(q2++post)).toArray et fz):=by
       rw[hb1];congr 2;apply Array.toList_inj.1;rw[hcs,e1a];simp
      have hcell:∀(w':World),w'.heap[l.blk]? = w.heap[l.blk]?→∀(j:Nat) (v:Value),os[j]? = some v→w'.cell? ⟨l.blk,l.base+off*P.cellsOf e1+j,none⟩=some v:=by
       intro w' hw' j v hj
       rw[cell_congr hw']
       have:=block_cells hblk (c1:=pre++q1) (y:=os) (c2:=q2++post) (by simp) j v hj
       simpa[hpre,l1a,hone,Nat.add_assoc] using this
      have hp0:(pre++q1).length=l.base+off*P.cellsOf e1:=by simp[hpre,l1a,hone]
      have hroomlen:c-len≤(q2++post).length:=by rw[List.length_append,hq2l];omega
      have hcsz:cs.size=((pre++q1)++os++(q2++post)).length:=by
       have h1:cs.size=cs.toList.length:=by simp
       rw[h1,hcs,e1a];simp
      have hcf:∀j,j<c→(w.cell? ⟨l.blk,l.base+off*P.cellsOf e1+j,none⟩).isSome=true∧w.frozen? ⟨l.blk,l.base+off*P.cellsOf e1+j,none⟩=false:=by
       intro j hj
       have hlt:l.base+off*P.cellsOf e1+j<((pre++q1)++os++(q2++post)).length:=by
        rw[List.length_append,List.length_append,hp0,l1b];omega
       constructor
       ·rw[cell_of_block hblk];simp only[List.getElem?_toArray];rw[List.getElem?_eq_getElem hlt];rfl
       ·rw[frozen_of_block hblk]
        have:=hfz (l.base+off*P.cellsOf e1+j) (by rw[hcsz];exact Nat.lt_add_right _ hlt)
        simp at this ⊢;omega
      have hnb:l2.blk≠l.blk:=by
       intro hEq
       have h1:Own μ H b l.blk:=⟨l,_,hμ,hH,by simp[ownB,hvirt]⟩
       have h2:Uses μ H b2 l.blk:=⟨l2,_,hμ2,hH2,by simp[usesB,hvirt2,hEq]⟩
       exact hbb (h.inj _ _ _ h1 h2)
      have hreps:Reps ty (M_ X μ H w) (((ds.drop off).take len).take i++(ds2.drop off2).take len2++((ds.drop off).take len).drop i) (List.replicate (len+len2) (ty e1)) (os.take i++vs++os.drop i):=by
       have hos':Reps ty (M_ X μ H w) ((ds.drop off).take len) (List.replicate ((ds.drop off).take len).length (ty e1)) os:=by rw[hdlen];exact hos
       obtain⟨r1,r2,r3,er,lr1,lr2,hr2,hr1,hr3⟩:=Reps.drop_take T.szOk hne hos' (i:=i) (n:=0) (by rw[hdlen];omega)
       rw[hone] at lr1 lr2
       have hr20:r2=[]:=List.eq_nil_of_length_eq_zero (by simpa using lr2)
       subst hr20
       have ht:os.take i=r1:=by rw[er,List.append_nil];exact List.take_left' (by simpa using lr1)
       have hd:os.drop i=r3:=by rw[er,List.append_nil];exact List.drop_left' (by simpa using lr1)
       rw[ht,hd]
       rw[hdlen] at hr3
       have ek:List.replicate (len+len2) (ty e1)=List.replicate i (ty e1)++List.replicate len2 (ty e1)++List.replicate (len-(i+0)) (ty e1):=by
        rw[List.replicate_append_replicate,List.replicate_append_replicate];congr 1;omega
       rw[ek]
       exact(hr1.append hvs).append (by simpa using hr3)
      have hin:∀(w':World) (post':List Value),len+len2≤c→(∃k,w'=putBlk { w with drawn:=k } l.blk (.cells ((pre++q1)++(os.take i++vs++os.drop i)++post').toArray et fz))→c-(len+len2)≤post'.length→((pre++q1)++(os.take i++vs++os.drop i)++post').length=cs.size →
        ∃y μ',Ending.returned (.slice (some ⟨l.blk,l.base+off*P.cellsOf e1,none⟩) (len+len2) c)=Ending.returned y∧HOk ty P.cellsOf cd X B0 w0 μ' (H.set b .dead++[.row e1 true true (((ds.drop off).take len).take i++(ds2.drop off2).take len2++((ds.drop off).take len).drop i)]) w' ∧
        RR ty P.cellsOf (M_ X μ' (H.set b .dead++[.row e1 true true (((ds.drop off).take len).take i++(ds2.drop off2).take len2++((ds.drop off).take len).drop i)]) w') μ' (.sref H.length 0 (len+len2)) y ∧
        Fut X B0 μ.length μ H w μ' (H.set b .dead++[.row e1 true true (((ds.drop off).take len).take i++(ds2.drop off2).take len2++((ds.drop off).take len).drop i)]) w':=by
       intro w' post' hroom hw' hpost' hsz
       obtain⟨k,rfl⟩:=hw'
       have hbel:Below w.heap.size w { w with drawn:=k }:=⟨rfl,rfl,rfl,Nat.le_refl _,fun _ _=>rfl⟩
       obtain⟨f1,f2⟩:=h.grow hbel
       obtain⟨g1,g2⟩:=HOk.killPut f1 (l':=⟨l.blk,l.base+off*P.cellsOf e1,c,.array (len+len2) e1,false,true⟩) (o':=.row e1 true true (((ds.drop off).take len).take i++(ds2.drop off2).take len2++((ds.drop off).take len).drop i))
        (obj:=.cells ((pre++q1)++(os.take i++vs++os.drop i)++post').toArray et fz) hμ hH (by simp[ownB,hvirt]) (by simp[ownB]) (fun M' hM=>by
         simp only[ObjOk]
         refine⟨by rw[hnew],trivial,hne,?_⟩
         rw[if_neg (by simp)]
         refine⟨trivial,by rw[hnew];omega,((pre++q1)++(os.take i++vs++os.drop i)++post').toArray,et,fz,pre++q1,os.take i++vs++os.drop i,post',?_,by simp,hp0,?_,?_,?_,het.size (by rw[←hsz];simp)⟩
         ·rw[putBlk_heap,if_pos ⟨rfl,lt_of_block hb1⟩]
         ·rw[hnew];exact Reps.mono _ (Mem.le_trans f2.mem hM) _ _ _ hreps
         ·rw[hnew,hone];simpa using hpost'
         ·intro o ho
          exact hfz o (by rw[←hsz];simpa using ho))
       refine⟨_,_,rfl,g1,.inr ⟨.slice e1,?_⟩,Fut.trans (Nat.le_refl _) f2 g2⟩
       simp only[RV]
       refine⟨⟨l.blk,l.base+off*P.cellsOf e1,c,.array (len+len2) e1,false,true⟩,len+len2,e1,?_,rfl,rfl,by omega,.inr (.inl ⟨rfl,c,by simp,hroom,by simp,by simpa using hroom⟩)⟩
       rw[←h.len];simp
      by_cases hend:i=len
      ·subst hend
       have htk:os.take i=os:=List.take_of_length_le (by omega)
       have hdk:os.drop i=[]:=List.drop_of_length_le (by omega)
       by_cases hroom:i+len2≤c
       ·have hseg:((q2++post).take len2).length=vs.length:=by rw[List.length_take,l2b];omega
        have hput:=fun (w1:World) (hw1:w1.heap[l.blk]? = w.heap[l.blk]?)=>setCells_put (b:=l.blk) vs (l.base+off*P.cellsOf e1+i) ((pre++q1)++os) ((q2++post).take len2) ((q2++post).drop len2) w1 (by rw[hw1,hblk,List.append_assoc ((pre++q1)++os),List.take_append_drop]) hseg (by rw[List.length_append,hp0,l1b])
        refine(Any2.slices_Insert_string_end_room L l.blk (l.base+off*P.cellsOf e1) i c l2.blk (l2.base+off2*P.cellsOf e1) len2 c2 vs w hpos hroom (by
         unfold maxInt at hcap;omega) l2b (fun j hj=>by rw[Nat.add_assoc];exact(hcf (i+j) (by omega)).1) (fun j hj=>by rw[Nat.add_assoc];exact(hcf (i+j) (by omega)).2) (hvcell w rfl) hvsc).mono ?_
        rintro e w' ⟨rfl,rfl⟩
        refine hin _ ((q2++post).drop len2) hroom ⟨w.drawn,?_⟩ (by rw[List.length_drop];omega) ?_
        ·rw[hput w rfl]
         rw[htk,hdk]
         simp
        ·rw[hcsz,htk,hdk]
         simp only[List.length_append,List.length_drop,List.length_nil,l2b] at hroomlen ⊢;omega
       ·refine(Any2.slices_Insert_string_end_grow L (some ⟨l.blk,l.base+off*P.cellsOf e1,none⟩) i c l2.blk (l2.base+off2*P.cellsOf e1) len2 c2 os vs w hpos hc (by omega) (by omega) l1b l2b (fun h0=>by simp at h0)
         (fun ad had j v hj=>by simp only[Option.some.injEq] at had;subst had;rw[addr_add rfl];exact hcell w rfl j v hj) (hvcell w rfl) hvsc).mono ?_
        rintro e w' ⟨rfl,rfl⟩
        have hcap:=cap_ge (i+len2) c (ρ.t 9) (w.tape w.drawn (.appendCap (i+len2) c (ρ.t 9)))
        have hcapm:=cap_le (i+len2) c (ρ.t 9) (w.tape w.drawn (.appendCap (i+len2) c (ρ.t 9))) (by unfold maxLen;omega)
        refine hgrow _ _ (os.take i++vs++os.drop i) (Builtin.zeroCells (Value.string ⟨#[]⟩).cells (grownCap w (i+len2) c (ρ.t 9)-(i+len2))).toList (ρ.t 9) (h9.trans he.symm) (below_da _ _) ?_ hreps ⟨hcap,hcapm⟩ (by simp[Builtin.zeroCells,Value.cells])
        rw[heap_da,htk,hdk]
        simp
      ·have hilt:i<len:=by omega
       by_cases hroom:len+len2≤c
       ·refine(Any2.slices_Insert_string_shift L l.blk (l.base+off*P.cellsOf e1) len c i l2.blk (l2.base+off2*P.cellsOf e1) len2 c2 os vs w hilt hpos hroom (by unfold maxInt at hcap;omega) hnb l1b l2b
         (hcell w rfl) (fun j hj=>(hcf j (by omega)).1) (fun j hj=>(hcf j (by omega)).2) (hvcell w rfl) hosc hvsc et2 et cs2.size cs.size (by simp[World.shape?,hb2]) (by simp[World.shape?,hb1]) (by rw[hcsz];simp only[List.length_append,l1b];omega) ?_ ?_).mono ?_
        ·rw[frozen_of_block hb2]
         have:=hfz2 (l2.base+off2*P.cellsOf e1) (by
          have h1:cs2.size=cs2.toList.length:=by simp
          rw[h1,hcs2,e2a,hone];simp only[List.length_append,hpre2,l2a,l2b];omega)
         simp at this ⊢;omega
        ·rw[frozen_of_block hb2]
         have:=hfz2 cs2.size (by rw[he];simp[slk])
         simp at this ⊢;omega
        rintro e w' ⟨rfl,rfl⟩
        have hT:(os.drop i++(q2++post)).length=(len-i)+(q2++post).length:=by rw[List.length_append,List.length_drop,l1b]
        have hput1:=setCells_put (b:=l.blk) (os.drop i) (l.base+off*P.cellsOf e1+(i+len2)) ((pre++q1)++os.take i++(os.drop i++(q2++post)).take len2) (((os.drop i++(q2++post)).drop len2).take (len-i)) ((os.drop i++(q2++post)).drop (len2+(len-i))) w.drew
         (et:=et) (fz:=fz) (by
          show w.heap[l.blk]? = _
          rw[hblk];congr 2;apply Array.toList_inj.1
          show (pre++q1)++os++(q2++post)=(pre++q1)++os.take i++(os.drop i++(q2++post)).take len2++((os.drop i++(q2++post)).drop len2).take (len-i)++(os.drop i++(q2++post)).drop (len2+(len-i))
          rw[←List.drop_drop,List.append_assoc _ (((os.drop i++(q2++post)).drop len2).take (len-i)),List.take_append_drop,List.append_assoc _ ((os.drop i++(q2++post)).take len2),List.take_append_drop,List.append_assoc (pre++q1),List.append_assoc (pre++q1),←List.append_assoc (os.take i),List.take_append_drop])
         (by rw[List.length_take,List.length_drop,List.length_drop,hT,l1b];omega) (by rw[List.length_append,List.length_append,hp0,List.length_take,List.length_take,hT,l1b];omega)
        rw[hput1]
        have hput2:=setCells_put (b:=l.blk) vs (l.base+off*P.cellsOf e1+i) ((pre++q1)++os.take i) ((os.drop i++(q2++post)).take len2) (os.drop i++(os.drop i++(q2++post)).drop (len2+(len-i))) (putBlk w.drew l.blk (.cells ((pre++q1)++os.take i++(os.drop i++(q2++post)).take len2++os.drop i++(os.drop i++(q2++post)).drop (len2+(len-i))).toArray et fz))
         (et:=et) (fz:=fz) (by rw[putBlk_heap,if_pos ⟨rfl,lt_of_block (w:=w.drew) hb1⟩];simp) (by rw[List.length_take,hT,l2b];omega) (by rw[List.length_append,hp0,List.length_take,l1b];omega)
        rw[hput2]
        refine hin _ ((os.drop i++(q2++post)).drop (len2+(len-i))) hroom ⟨w.drawn+1,?_⟩ (by rw[List.length_drop,hT];omega) ?_
        ·show putBlk (putBlk w.drew _ _) _ _=putBlk w.drew _ _
         simp[putBlk]
        ·rw[hcsz];simp only[List.length_append,List.length_drop,List.length_take,l1b,l2b] at hT hroomlen ⊢;omega
       ·refine(Any2.slices_Insert_string_grow L l.blk (l.base+off*P.cellsOf e1) len c i l2.blk (l2.base+off2*P.cellsOf e1) len2 c2 os vs w hilt hpos hc (by omega) (by omega) l1b l2b (hcell w rfl) (hvcell w rfl) hosc hvsc).mono ?_
        rintro e w' ⟨rfl,rfl⟩
        have hcap:=cap_ge (len+len2) c (ρ.t 9) (w.tape w.drawn (.appendCap (len+len2) c (ρ.t 9)))
        have hcapm:=cap_le (len+len2) c (ρ.t 9) (w.tape w.drawn (.appendCap (len+len2) c (ρ.t 9))) (by unfold maxLen;omega)
        have hdr:∀(w1:World) (cs:Array Value) (t:Nat),(w1.alloc (.cells cs t)).drew.heap[w1.heap.size]? = some (.cells cs t (0,0)):=by
         intro w1 cs t;show (w1.heap.push _)[w1.heap.size]? = _;simp
        have hz:∀n,(Builtin.zeroCells (Value.string ⟨#[]⟩).cells n).toList.length=n:=by intro n;simp[Builtin.zeroCells,Value.cells]
        generalize hZ1:Builtin.zeroCells (Value.string ⟨#[]⟩).cells (len+len2-i)=Z1
        generalize hZ2:Builtin.zeroCells (Value.string ⟨#[]⟩).cells (grownCap w (len+len2) c (ρ.t 9)-(len+len2))=Z2
        have hz1:Z1.toList.length=len+len2-i:=by rw[←hZ1];exact hz _
        have hz2:Z2.toList.length=grownCap w (len+len2) c (ρ.t 9)-(len+len2):=by rw[←hZ2];exact hz _
        have hput1:=setCells_put (b:=w.heap.size) vs i (os.take i) (Z1.toList.take len2) (Z1.toList.drop len2++Z2.toList) (w.alloc (.cells ((os.take i).toArray++Z1++Z2) (ρ.t 9))).drew
         (et:=ρ.t 9) (fz:=(0,0)) (by rw[hdr];congr 2;apply Array.toList_inj.1;simp only[Array.toList_append,List.append_assoc];rw[←List.append_assoc (Z1.toList.take len2),List.take_append_drop])
         (by rw[List.length_take,hz1,l2b];omega) (by rw[List.length_take,l1b];omega)
        rw[hput1]
        have hput2:=setCells_put (b:=w.heap.size) (os.drop i) (i+len2) (os.take i++vs) (Z1.toList.drop len2) Z2.toList (putBlk (w.alloc (.cells ((os.take i).toArray++Z1++Z2) (ρ.t 9))).drew w.heap.size (.cells (os.take i++vs++(Z1.toList.drop len2++Z2.toList)).toArray (ρ.t 9) (0,0))).drew
         (et:=ρ.t 9) (fz:=(0,0)) (by show (putBlk _ _ _).heap[_]? = _;rw[putBlk_heap,if_pos ⟨rfl,lt_of_block (hdr _ _ _)⟩];simp)
         (by rw[List.length_drop,List.length_drop,hz1,l1b];omega) (by rw[List.length_append,List.length_take,l1b,l2b];omega)
        rw[hput2]
        refine hgrow _ _ (os.take i++vs++os.drop i) Z2.toList (ρ.t 9) (h9.trans he.symm) ?_ ?_ hreps ⟨hcap,hcapm⟩ (by rw[hz2];exact Nat.le_refl _)
        ·refine⟨rfl,rfl,rfl,?_,fun k hk=>?_⟩
         ·show w.heap.size≤(((w.heap.push _).setIfInBounds _ _).setIfInBounds _ _).size
          simp
         ·show (((w.heap.push _).setIfInBounds _ _).setIfInBounds _ _)[k]? = _
          simp only[Array.getElem?_setIfInBounds,Array.getElem?_push]
          rw[if_neg (by omega),if_neg (by omega),if_neg (by omega)]
        ·rw[putBlk_heap,if_pos ⟨rfl,lt_of_block (w:=(putBlk _ _ _).drew) (by show (putBlk _ _ _).heap[_]? = _;rw[putBlk_heap,if_pos ⟨rfl,lt_of_block (hdr _ _ _)⟩])⟩]
     ·obtain rfl:i=0:=by omega
      exact hempty (some ad) hl0
    ·simp at hrun
   ·rename_i e1
    replace hs:=hs.resolve_left (by simp)
    obtain⟨_,hs⟩:=hs
    simp only[RV] at hs
    obtain⟨rfl,hs⟩:=hs
    simp only[Rep] at hs
    obtain⟨_,ad,cap0,_,rfl,_,hnn,hnil,_⟩:=hs
    have had:ad=none:=by cases ad with | none=>rfl | some _=>simp at hnn
    subst had
    obtain rfl:=hnil rfl
    simp only[Option.some.injEq,Prod.mk.injEq,Bool.and_eq_true,decide_eq_true_eq] at hrun
    obtain⟨⟨_,⟨rfl,hx0⟩,hmax⟩,hrun⟩:=hrun
    obtain⟨rfl,rfl⟩:=hrun
    unfold maxLen at hmax
    rw[hx0] at hiv
    subst hiv
    refine(Any2.slices_Insert_string_end_grow L none 0 0 l2.blk (l2.base+off2*P.cellsOf e1) len2 c2 [] vs w hpos (Nat.le_refl _) (by omega) (by omega) rfl l2b (fun _=>rfl) (fun _ _ j v hj=>by simp at hj) (hvcell w rfl) hvsc).mono ?_
    rintro e w' ⟨rfl,rfl⟩
    have hcap:=cap_ge (0+len2) 0 (ρ.t 9) (w.tape w.drawn (.appendCap (0+len2) 0 (ρ.t 9)))
    have hcapm:=cap_le (0+len2) 0 (ρ.t 9) (w.tape w.drawn (.appendCap (0+len2) 0 (ρ.t 9))) (by unfold maxLen;omega)
    have hvl:((ds2.drop off2).take len2).length=len2:=by simp;omega
    obtain⟨g1,g2,g3⟩:=newRow_adopt h (w':=w.drew.alloc (.cells (([]++vs).toArray++Builtin.zeroCells (Value.string ⟨#[]⟩).cells (grownCap w (0+len2) 0 (ρ.t 9)-(0+len2))) (ρ.t 9))) (below_da _ _) (blk:=w.heap.size) (e:=e1) (cap:=grownCap w (0+len2) 0 (ρ.t 9)) (et:=ρ.t 9) (fz:=(0,0))
     (cs:=([]++vs).toArray++Builtin.zeroCells (Value.string ⟨#[]⟩).cells (grownCap w (0+len2) 0 (ρ.t 9)-(0+len2))) (ds:=(ds2.drop off2).take len2) (mid:=vs) (post:=(Builtin.zeroCells (Value.string ⟨#[]⟩).cells (grownCap w (0+len2) 0 (ρ.t 9)-(0+len2))).toList)
     (Nat.le_refl _) (heap_da _ _) hne (by simp) (fun M' hM=>by rw[hvl];exact Reps.mono _ hM _ _ _ hvs) (by rw[hvl];rw[Nat.zero_add] at hcap hcapm ⊢;exact⟨hcap,hcapm⟩) (by rw[hvl,hone];simp[Builtin.zeroCells,Value.cells]) (by simp) (.inl (h9.trans he.symm))
    rw[hvl] at g1 g2 g3
    rw[Nat.zero_add] at g1 g2 g3 ⊢
    exact⟨_,_,rfl,g1,g3,g2⟩
   ·simp at hrun
  ·simp at hrun
 ·simp at hrun
end
end Go.AM
namespace Go.AM
open Go Go.RowKit
def add64P:List D→Option D
 | [x,y,c]=>bif Nat.ble c.i.toNat 1 then some (.tup [.int .u64 (((x.i.toNat+y.i.toNat+c.i.toNat)%18446744073709551616:Nat):Int),.int .u64 (((x.i.toNat+y.i.toNat+c.i.toNat) / 18446744073709551616:Nat):Int)]) else none
 | _=>none
def add64E:Array Value→Sem Value:=fun args=>do
 let (x,y,c) ←Extern.MathBitsCarry.three "Add64" args
 pure (Extern.MathBitsCarry.pair ((x+y+c)%Extern.MathBitsCarry.m64) ((x+y+c) / Extern.MathBitsCarry.m64))
theorem run_asInt {P:Program} {k:IntKind} {n:Int} (w:World):(asInt (.int k n)).run P w = .ok n w:=by rfl
theorem add64_ok {P:Program} {ty:Nat→K} {f:Nat} {fn0:Func} (hf:P.funcs[f]? = some fn0) (hg:(fn0.name == "runtime.NumGoroutine")=false) (hb:fn0.body.isNone=true) (h1:Extern.findNext fn0=none) (h2:Extern.find fn0=some add64E)
  (hp:fn0.params.toList.map ty=[.int .u64,.int .u64,.int .u64]) {t1 t2:Nat} (hr:fn0.resultTypes.toList=[t1,t2]) (ht1:ty t1 = .int .u64) (ht2:ty t2 = .int .u64):PrimOk P ty f add64P:=by
 intro fn M ds xs r w hfn hE hrun
 rw[hf] at hfn
 simp only[Option.some.injEq] at hfn
 subst hfn
 rw[hp] at hE
 unfold add64P at hrun
 split at hrun
 ·rename_i x y c
  simp only[Each] at hE
  obtain⟨_,_,vx,_,e1,rfl,hx,_,_,vy,_,e2,rfl,hy,_,_,vc,_,e3,rfl,hc,_,e4⟩:=hE
  simp only[List.cons.injEq] at e1
  obtain⟨rfl,rfl⟩:=e1
  simp only[List.cons.injEq] at e2
  obtain⟨rfl,rfl⟩:=e2
  simp only[List.cons.injEq] at e3
  obtain⟨rfl,rfl⟩:=e3
  have hvx:=rep_int hx
  have hvy:=rep_int hy
  have hvc:=rep_int hc
  subst hvx hvy hvc
  rw[Bool.cond_eq_ite] at hrun
  split at hrun
  ·rename_i hle
   simp only[Option.some.injEq] at hrun
   subst hrun
   have hc1:¬c.i.toNat>1:=by have:=Nat.le_of_ble_eq_true hle;omega
   refine⟨Extern.MathBitsCarry.pair ((x.i.toNat+y.i.toNat+c.i.toNat)%Extern.MathBitsCarry.m64) ((x.i.toNat+y.i.toNat+c.i.toNat) / Extern.MathBitsCarry.m64),?_,fun M'=>?_⟩
   ·simp only[callFunc,run_bind,program,Sem.run,hf,hg,hb,Bool.false_eq_true,if_false,if_true,h1,h2,run_mark]
    have hrun:Sem.run P (add64E #[.int .u64 x.i,.int .u64 y.i,.int .u64 c.i]) w = .ok (Extern.MathBitsCarry.pair ((x.i.toNat+y.i.toNat+c.i.toNat)%Extern.MathBitsCarry.m64) ((x.i.toNat+y.i.toNat+c.i.toNat) / Extern.MathBitsCarry.m64)) w:=by
     have h3:Sem.run P (Extern.MathBitsCarry.three "Add64" #[.int .u64 x.i,.int .u64 y.i,.int .u64 c.i]) w = .ok (x.i.toNat,y.i.toNat,c.i.toNat) w:=by
      show Sem.run P (Bind.bind (asInt (.int .u64 c.i)) _) w=_
      rw[run_bind,run_asInt]
      simp only[if_neg hc1,run_bind,run_pure,run_asInt]
      rfl
     simp only[add64E,run_bind,h3,run_pure]
    subst e4
    rw[show (Value.int IntKind.u64 x.i::Value.int IntKind.u64 y.i::Value.int IntKind.u64 c.i::([]:List Value)).toArray = #[.int .u64 x.i,.int .u64 y.i,.int .u64 c.i] from rfl,hrun]
    rfl
   ·rw[hr]
    simp only[ResRep]
    refine⟨_,_,rfl,rfl,?_⟩
    simp only[List.map_cons,List.map_nil,ht1,ht2,Each]
    exact⟨_,_,_,_,rfl,rfl,⟨rfl,rfl⟩,_,_,_,_,rfl,rfl,⟨rfl,rfl⟩,rfl,rfl⟩
  ·simp at hrun
 ·simp at hrun
end Go.AM
namespace Go.AM
open Go Go.RowKit
def cutCells (sz:Nat→Nat) (κ:K) (cs:List Value):Option (Value×List Value):=
 if κ.isAgg then (if ksz sz κ≤cs.length then some (.agg (cs.take (ksz sz κ)).toArray,cs.drop (ksz sz κ)) else none)
 else match cs with | v::cs=>(match v with | .agg _=>none | _=>some (v,cs)) | []=>none
mutual
def zrep (ty:Nat→K) (sz:Nat→Nat):D→K→Value→Bool
 | .bool b,.bool,.bool b'=>b==b'
 | .int k n,.int k',.int k'' n'=>decide (k=k')&&decide (k=k'')&&n==n'
 | .str s,.str,.string s'=>s.data.toList==s'.data.toList
 | .agg ds,κ,.agg cs=>κ.isAgg&&zreps ty sz ds (κ.kids ty) cs.toList
 | .slice false [],.slice _,.slice none 0 0=>true
 | .nilIface,.iface _,.nilIface=>true
 | .nilFunc,.func,.nilFunc=>true
 | .nilPtr,.ptr _,.pointer none=>true
 | .nilMap,.map _ _,.map none=>true
 | _,_,_=>false
def zreps (ty:Nat→K) (sz:Nat→Nat):List D→List K→List Value→Bool
 | [],[],[]=>true
 | d::ds,κ::κs,cs=>match cutCells sz κ cs with
  | some (x,rest)=>zrep ty sz d κ x&&zreps ty sz ds κs rest
  | none=>false
 | _,_,_=>false
end
section
variable {ty:Nat→K} {sz:Nat→Nat}
mutual
theorem zrep_ok {M:Mem}:∀(d:D) (κ:K) (v:Value),zrep ty sz d κ v=true→Rep ty M d κ v
 | .bool b,κ,v,h=>by
  cases κ<;>cases v<;>simp[zrep] at h
  subst h;simp[Rep]
 | .int k n,κ,v,h=>by
  cases κ<;>cases v<;>simp[zrep] at h
  obtain⟨⟨rfl,rfl⟩,rfl⟩:=h;simp[Rep]
 | .str s,κ,v,h=>by
  cases κ<;>cases v<;>simp[zrep] at h
  rename_i s'
  have:s=s':=by cases s;cases s';congr
  subst this;simp[Rep]
 | .agg ds,κ,v,h=>by
  cases v<;>simp[zrep] at h
  rename_i cs
  simp only[Rep]
  exact⟨h.1,cs,rfl,zreps_ok ds _ _ h.2⟩
 | .slice nn ds,κ,v,h=>by
  unfold zrep at h
  split at h<;>simp at *
  rename_i h1
  obtain⟨rfl,rfl⟩:=h1
  simp only[Rep]
  exact⟨_,none,0,rfl,rfl,Nat.le_refl _,rfl,fun _=>rfl,.inl trivial⟩
 | .iface t x,κ,v,h=>by cases κ<;>cases v<;>simp[zrep] at h
 | .nilIface,κ,v,h=>by cases κ<;>cases v<;>simp[zrep] at h;simp[Rep]
 | .fn f,κ,v,h=>by cases κ<;>cases v<;>simp[zrep] at h
 | .nilFunc,κ,v,h=>by cases κ<;>cases v<;>simp[zrep] at h;simp[Rep]
 | .nilPtr,κ,v,h=>by
  unfold zrep at h
  split at h<;>simp at *
  simp[Rep]
 | .nilMap,κ,v,h=>by
  unfold zrep at h
  split at h<;>simp at *
  simp[Rep]
 | .tup ds,κ,v,h=>by cases κ<;>cases v<;>simp[zrep] at h
theorem zreps_ok {M:Mem}:∀(ds:List D) (κs:List K) (cs:List Value),zreps ty sz ds κs cs=true→Reps ty M ds κs cs
 | [],κs,cs,h=>by
  cases κs<;>cases cs<;>simp[zreps] at h
  simp[Reps]
 | d::ds,κs,cs,h=>by
  cases κs with
  | nil=>simp[zreps] at h
  | cons κ κs=>
   simp only[zreps] at h
   split at h
   ·rename_i x rest hc
    simp only[Bool.and_eq_true] at h
    simp only[Reps]
    refine⟨κ,κs,x,rest,rfl,?_,zrep_ok d κ x h.1,zreps_ok ds κs rest h.2⟩
    unfold cutCells at hc
    split at hc
    ·split at hc
     ·simp only[Option.some.injEq,Prod.mk.injEq] at hc
      obtain⟨rfl,rfl⟩:=hc
      simp[cells_agg]
     ·simp at hc
    ·split at hc
     ·rename_i v cs'
      split at hc
      ·simp at hc
      ·rename_i hna
       simp only[Option.some.injEq,Prod.mk.injEq] at hc
       obtain⟨rfl,rfl⟩:=hc
       cases v<;>first | (exact absurd rfl (hna _)) | simp[Value.cells]
     ·simp at hc
   ·simp at h
end
end
def fieldsB (P:Program) (ty:Nat→K) (sz:Nat→Nat) (κ:K):List Field→List Nat→Nat→Bool
 | [],[],_=>true
 | f::fields,t::fs,j=>f.type==t&&f.offset==kOff sz κ j&&decide (0<sz f.type)&&f.name != "_" && (ty f.type).ok&&fieldsB P ty sz κ fields fs (j+1)
 | _,_,_=>false
def descB (P:Program) (ty:Nat→K) (t:Nat) (κ:K):Bool:=
 match κ,P.underlying t with
 | .bool,some .bool=>true
 | .int k,some (.int k')=>decide (k=k')
 | .str,some .string=>true
 | .struct fs,some (.struct fields)=>fieldsB P ty P.cellsOf (.struct fs) fields.toList fs 0
 | .array n e,some (.array n' e')=>n==n'&&e==e'&&decide (0<P.cellsOf e)&&(ty e).ok
 | .slice e,some (.slice e')=>e==e'&&(ty e).ok
 | .map a e,some (.map a' e')=>a==a'&&e==e'&&(ty a).ok&&(ty e).ok
 | .iface m,some (.interface ms)=>ms.isEmpty==!m
 | .ptr e,some (.pointer e')=>e==e'
 | .func,some (.func _ _ _)=>true
 | _,_=>false
def tyB (P:Program) (ty:Nat→K) (t:Nat):Bool:=
 match ty t with
 | .bad=>true
 | κ=>match P.info? t with
  | none=>false
  | some i=>i.size==ksz P.cellsOf κ&&decide (i.bytes≤4096)&&decide (i.size≤4096)&&(match i.zero with | some z=>zrep ty P.cellsOf (zero ty κ) κ z | none=>false) &&
   (!K.cmp ty 20 κ||(i.comparable&&!P.eqGuardType P.depth t&&!P.stoodInHeld t))&&descB P ty t κ
theorem ok_ne {κ:K} (h:κ.ok=true):κ≠.bad:=by rintro rfl;simp[K.ok] at h
theorem fieldsB_ok {P:Program} {ty:Nat→K} {sz:Nat→Nat} {κ:K}:∀(fields:List Field) (fs:List Nat) (j:Nat),fieldsB P ty sz κ fields fs j=true →
  fields.map (·.type)=fs∧∀(i:Nat) (f:Field),fields[i]? = some f→f.offset=kOff sz κ (j+i)∧0<sz f.type∧f.name ≠ "_" ∧ ty f.type≠.bad
 | [],[],j,_=>⟨rfl,by simp⟩
 | [],_::_,j,h=>by simp[fieldsB] at h
 | _::_,[],j,h=>by simp[fieldsB] at h
 | f::fields,t::fs,j,h=>by
  simp only[fieldsB,Bool.and_eq_true,beq_iff_eq,decide_eq_true_eq,bne_iff_ne] at h
  obtain⟨⟨⟨⟨⟨h1,h2⟩,h3⟩,h4⟩,h5⟩,h6⟩:=h
  obtain⟨k1,k2⟩:=fieldsB_ok fields fs (j+1) h6
  refine⟨by simp[h1,k1],fun i f' hi=>?_⟩
  cases i with
  | zero=>simp at hi;subst hi;exact⟨h2,h3,h4,ok_ne h5⟩
  | succ i=>
   obtain⟨a,b⟩:=k2 i f' (by simpa using hi)
   exact⟨by rw[a];congr 1;omega,b⟩
theorem tyB_ok {P:Program} {ty:Nat→K} {t:Nat} (h:tyB P ty t=true) (hb:ty t≠.bad):∃i,TyFact P ty t i:=by
 unfold tyB at h
 split at h
 ·rename_i hk;exact absurd hk hb
 ·split at h
  ·simp at h
  ·rename_i i hi
   simp only[Bool.and_eq_true,beq_iff_eq,decide_eq_true_eq,Bool.or_eq_true,Bool.not_eq_true'] at h
   obtain⟨⟨⟨⟨⟨h1,h2⟩,h3⟩,h4⟩,h5⟩,h6⟩:=h
   refine⟨i,hi,h1,h2,h3,?_,?_,?_⟩
   ·cases hz:i.zero with
    | none=>rw[hz] at h4;simp at h4
    | some z=>rw[hz] at h4;exact⟨z,rfl,fun M=>zrep_ok _ _ _ h4⟩
   ·intro hc
    rcases h5 with h5 | h5
    ·rw[hc] at h5;simp at h5
    ·exact⟨h5.1.1,h5.1.2,h5.2⟩
   ·unfold descB at h6
    split at h6
    case h_11=>simp at h6
    all_goals (rename_i hk hu;rw[hk];simp only[descOk])
    ·exact hu
    ·simp only[decide_eq_true_eq] at h6;subst h6;exact hu
    ·exact hu
    ·obtain⟨k1,k2⟩:=fieldsB_ok _ _ _ h6
     exact⟨_,hu,k1,fun j f hj=>by have:=k2 j f (by simpa using hj);simpa using this⟩
    ·simp only[Bool.and_eq_true,beq_iff_eq,decide_eq_true_eq] at h6
     obtain⟨⟨⟨rfl,rfl⟩,h7⟩,h8⟩:=h6
     exact⟨hu,h7,ok_ne h8⟩
    ·simp only[Bool.and_eq_true,beq_iff_eq] at h6
     obtain⟨rfl,h8⟩:=h6
     exact⟨hu,ok_ne h8⟩
    ·simp only[Bool.and_eq_true,beq_iff_eq] at h6
     obtain⟨⟨⟨rfl,rfl⟩,h7⟩,h8⟩:=h6
     exact⟨hu,ok_ne h7,ok_ne h8⟩
    ·exact⟨_,hu,by simpa using h6⟩
    ·simp only[beq_iff_eq] at h6;subst h6;exact hu
    ·exact⟨_,_,_,hu⟩
theorem tyOk_of {P:Program} {tys:List K} (h:(List.range tys.length).all (tyB P fun t=>tys.getD t .bad)=true):TyOk P fun t=>tys.getD t .bad:=by
 intro t ht
 refine tyB_ok ?_ ht
 have hlt:t<tys.length:=by
  rcases Nat.lt_or_ge t tys.length with h | h
  ·exact h
  ·simp[List.getD_eq_getElem?_getD,List.getElem?_eq_none h] at ht
 exact List.all_eq_true.1 h t (List.mem_range.2 hlt)
end Go.AM
namespace Go.Proofs
open Go.Shelf
def Tryz.lays197_ren:Go.Shelf.Ren:=⟨fun | 197=>155 | 260=>158 | n=>n,fun | 9=>9 | 21=>21 | 3=>3 | 4=>4 | 5=>5 | 105=>205 | 119=>208 | 0=>0 | 46=>176 | 139=>211 | 138=>210 | n=>n,fun | 3=>0 | 4=>1 | n=>n⟩
theorem Tryz.lays197:Go.Proofs.Lays.n197 Tryz.prog Tryz.lays197_ren:={
 mixed:=by kernel_rfl
 f197:=Tryz.func155.trans (congrArg some (by kernel_rfl))
 f260:=Tryz.func158.trans (congrArg some (by kernel_rfl))
 t0:=Tryz.underlying0
 a0:=Tryz.isAgg0
 z0:=Tryz.sizeOf0
 v0:=Tryz.zeroValue0
 t3:=Tryz.underlying3
 a3:=Tryz.isAgg3
 z3:=Tryz.sizeOf3
 v3:=Tryz.zeroValue3
 t4:=Tryz.underlying4
 a4:=Tryz.isAgg4
 z4:=Tryz.sizeOf4
 v4:=Tryz.zeroValue4
 t5:=Tryz.underlying5
 a5:=Tryz.isAgg5
 z5:=Tryz.sizeOf5
 v5:=Tryz.zeroValue5
 t9:=Tryz.underlying9
 a9:=Tryz.isAgg9
 z9:=Tryz.sizeOf9
 v9:=Tryz.zeroValue9
 t21:=Tryz.underlying21
 a21:=Tryz.isAgg21
 z21:=Tryz.sizeOf21
 v21:=Tryz.zeroValue21
 t46:=Tryz.underlying176
 a46:=Tryz.isAgg176
 z46:=Tryz.sizeOf176
 v46:=Tryz.zeroValue176
 t105:=Tryz.underlying205
 a105:=Tryz.isAgg205
 z105:=Tryz.sizeOf205
 v105:=Tryz.zeroValue205
 t119:=Tryz.underlying208
 a119:=Tryz.isAgg208
 z119:=Tryz.sizeOf208
 t138:=Tryz.underlying210
 a138:=Tryz.isAgg210
 z138:=Tryz.sizeOf210
 v138:=Tryz.zeroValue210
 t139:=Tryz.underlying211
 a139:=Tryz.isAgg211
 z139:=Tryz.sizeOf211
 v139:=Tryz.zeroValue211
 g3:=by kernel_rfl
 g4:=by kernel_rfl }
def Tryz.lays22_ren:Go.Shelf.Ren:=⟨fun | 22=>126 | 29=>143 | 30=>144 | 36=>152 | 17=>157 | n=>n,fun | 24=>37 | 9=>9 | 3=>3 | 4=>4 | 0=>0 | n=>n,fun | n=>n⟩
theorem Tryz.lays22:Go.Proofs.Lays2.n22 Tryz.prog Tryz.lays22_ren:={
 mixed:=by kernel_rfl
 f17:=Tryz.func157.trans (congrArg some (by kernel_rfl))
 f22:=Tryz.func126.trans (congrArg some (by kernel_rfl))
 f29:=Tryz.func143.trans (congrArg some (by kernel_rfl))
 f30:=Tryz.func144.trans (congrArg some (by kernel_rfl))
 f36:=Tryz.func152.trans (congrArg some (by kernel_rfl))
 t0:=Tryz.underlying0
 a0:=Tryz.isAgg0
 z0:=Tryz.sizeOf0
 v0:=Tryz.zeroValue0
 t3:=Tryz.underlying3
 a3:=Tryz.isAgg3
 z3:=Tryz.sizeOf3
 v3:=Tryz.zeroValue3
 t4:=Tryz.underlying4
 a4:=Tryz.isAgg4
 z4:=Tryz.sizeOf4
 v4:=Tryz.zeroValue4
 t9:=Tryz.underlying9
 a9:=Tryz.isAgg9
 z9:=Tryz.sizeOf9
 v9:=Tryz.zeroValue9
 t24:=Tryz.underlying37
 a24:=Tryz.isAgg37
 z24:=Tryz.sizeOf37
 v24:=Tryz.zeroValue37
 i9:=by kernel_rfl }
theorem Tryz.lays197ok:Lays.n197 Tryz.prog Tryz.lays197_ren:=Tryz.lays197
end Go.Proofs
namespace Go.AM.SZ
open Go Go.AM Go.Proofs Go.RowKit
def tys:List K:=[
.bad,.func,.int .i64,.int .i64,.bool,.int .u8,.int .u8,.struct [2,3,4,6],
.struct [2,3,4,6],.str,.str,.str,.int .u64,.bad,.bad,.ptr 214,
.ptr 217,.ptr 226,.struct [17],.struct [17],.iface false,.int .i32,.slice 52,.func,
.func,.slice 39,.struct [25,3,3],.struct [25,3,3],.slice 41,.slice 58,.bad,.func,
.struct [25,3,3],.bad,.func,.func,.int .i64,.slice 9,.struct [3,9,9,4,3,37],.struct [3,9,9,4,3,37],
.struct [36,3,9,39,37],.struct [36,3,9,39,37],.func,.func,.func,.slice 81,.struct [45,3,3],.struct [45,3,3],
.bad,.func,.int .i64,.struct [50,9,9,3,3,3],.struct [50,9,9,3,3,3],.bad,.func,.array 32 5,
.array 32 5,.struct [50,3,9,3,3,56],.struct [50,3,9,3,3,56],.func,.func,.func,.bad,.func,
.slice 109,.struct [64,3,3],.struct [64,3,3],.bad,.func,.func,.func,.func,
.func,.func,.func,.func,.bad,.func,.func,.func,
.struct [39,3,56],.struct [39,3,56],.func,.ptr 85,.struct [27,52,29],.struct [27,52,29],.func,.array 12 86,
.func,.func,.func,.func,.func,.struct [92],.struct [92],.bad,
.ptr 47,.func,.func,.struct [98],.struct [98],.ptr 81,.func,.func,
.func,.func,.func,.bad,.func,.struct [39,3,56],.func,.func,
.func,.func,.func,.func,.bad,.func,.func,.func,
.func,.bad,.func,.bad,.func,.func,.func,.func,
.slice 132,.func,.func,.iface true,.iface true,.str,.bad,.func,
.func,.func,.func,.int .u32,.array 8 139,.array 64 139,.bad,.func,
.func,.func,.func,.func,.func,.func,.func,.func,
.slice 3,.func,.func,.func,.func,.func,.func,.func,
.int .i64,.array 32 5,.func,.func,.func,.func,.func,.func,
.str,.func,.func,.func,.func,.func,.int .u64,.slice 5,
.int .u64,.func,.slice 139,.array 5 4,.func,.slice 21,.func,.bad,
.func,.bad,.map 50 20,.func,.func,.func,.bad,.func,
.func,.func,.func,.func,.func,.func,.func,.func,
.func,.func,.bad,.func,.func,.bad,.func,.func,
.array 256 5,.struct [5,5],.struct [5,5],.array 16 210,.func,.struct [17,17,17,9],.struct [17,17,17,9],.array 0 16,
.bad,.bad,.func,.int .u8,.int .u8,.func,.ptr 5,.int .i32,
.int .i32,.struct [12,12,139,219,5,5,220,221,222,223,224],.struct [12,12,139,219,5,5,220,221,222,223,224],.bad]
def ty (t:Nat):K:=tys.getD t .bad
theorem tyOk:TyOk Tryz.prog ty:=tyOk_of (by kernel_rfl)
theorem mixed:Tryz.prog.follows .mixedOrders=true:=by kernel_rfl
def plainNames (l:List Func):Bool:=l.all fun f=>!(f.name == "runtime.NumGoroutine")
theorem names:plainNames Tryz.prog.funcs.toList=true:=by kernel_rfl
def plainRounds (l:List Func):Bool:=l.all roundsOk
theorem rounds_ok:plainRounds Tryz.prog.funcs.toList=true:=by kernel_rfl
def look {A:Type} (l:List (Nat×A)) (f:Nat):Option A:=match l.find? fun e=>e.1==f with | some e=>some e.2 | none=>none
def look2 (l:List (Nat×Nat×Hint)) (f i:Nat):Hint:=match l.find? fun e=>e.1==f&&e.2.1==i with | some e=>e.2.2 | none=>{}
def prims:List (Nat×(List D→Option D)):=[(154,add64P)]
noncomputable def env (cons:List (Nat×Con)) (exts:List (Nat×Ext)) (hints:List (Nat×Nat×Hint)) (M:Nat):Env:=
 {ty:=ty,fn:=fun f=>Tryz.prog.funcs[f]?,con:=look cons,hint:=look2 hints,fuel:=M+1,ext:=look exts,prim:=look prims }
def I (w:World):Prop:=Lib.Utf8Tabs 0 1 w
def gl:Nat:=2
theorem hgl (w:World) (h:I w):gl≤w.heap.size:=by
 have:=(h.2 0 (by omega)).1
 unfold gl
 rcases Nat.lt_or_ge 1 w.heap.size with h1 | h1
 ·omega
 ·simp[World.cell?,Array.getElem?_eq_none h1] at this
theorem hk (w w':World) (hb:Below gl w w') (h:I w):I w':=by
 have e:∀b o,b<2→w'.cell? ⟨b,o,none⟩=w.cell? ⟨b,o,none⟩:=fun b o hb2=>cell_congr (hb.block b hb2)
 exact⟨fun c hc=>by rw[e 0 _ (by omega)];exact h.1 c hc,fun i hi=>by rw[e 1 _ (by omega),e 1 _ (by omega)];exact h.2 i hi⟩
def ConOk (e:Nat×Con):Prop:=∀fn,Tryz.prog.funcs[e.1]? = some fn→Contract Tryz.prog ty I e.1 fn e.2
def XOk (e:Nat×Ext):Prop:=ExtOk Tryz.prog ty I gl e.1 e.2
theorem allNil {B:Type} {Q:B→Prop}:∀x∈([]:List B),Q x:=fun _ h=>absurd h List.not_mem_nil
theorem allCons {B:Type} {Q:B→Prop} {e:B} {l:List B} (h:Q e) (hl:∀x∈l,Q x):∀x∈e::l,Q x:=by
 intro x hx
 rcases List.mem_cons.1 hx with rfl | hx
 ·exact h
 ·exact hl x hx
theorem prims_ok:∀e∈prims,PrimOk Tryz.prog ty e.1 e.2:=allCons (add64_ok (fn0:=Tryz.f154) (by kernel_rfl) (by kernel_rfl) (by kernel_rfl) (by kernel_rfl) (by kernel_rfl) (by kernel_rfl) (t1:=Tryz.f154.resultTypes[0]!) (t2:=Tryz.f154.resultTypes[1]!) (by kernel_rfl) (by kernel_rfl) (by kernel_rfl)) allNil
def voidC:Con:={ run:=fun _=>none }
theorem void_ok (n:Nat):ConOk (n,voidC):=fun fn _ X w ds xs r _ _ _ h=>by simp[voidC] at h
theorem envOk {cons:List (Nat×Con)} {exts:List (Nat×Ext)} {hints:List (Nat×Nat×Hint)} {M:Nat} (hc:∀e∈cons,ConOk e) (hx:∀e∈exts,XOk e):EnvOk Tryz.prog (env cons exts hints M) I gl:=by
 refine⟨tyOk,fun f fn hf=>⟨hf,?_⟩,fun f c fn hl hf=>?_,hk,mixed,fun f x hl=>?_,fun f fn hf=>List.all_eq_true.1 rounds_ok fn (by have hf':Tryz.prog.funcs[f]? = some fn:=hf;rw[←Array.getElem?_toList] at hf';exact List.mem_of_getElem? hf'),fun f x hl=>?_⟩
 ·have h:=List.all_eq_true.1 names fn (by have hf':Tryz.prog.funcs[f]? = some fn:=hf;rw[←Array.getElem?_toList] at hf';exact List.mem_of_getElem? hf')
  simpa using h
 ·unfold env look at hl
  simp only at hl
  split at hl
  ·rename_i e he
   simp only[Option.some.injEq] at hl
   subst hl
   have h1:e.1=f:=by simpa using List.find?_some he
   subst h1
   exact hc e (List.mem_of_find?_eq_some he) fn hf
  ·simp at hl
 ·unfold env look at hl
  simp only at hl
  split at hl
  ·rename_i e he
   simp only[Option.some.injEq] at hl
   subst hl
   have h1:e.1=f:=by simpa using List.find?_some he
   subst h1
   exact hx e (List.mem_of_find?_eq_some he)
  ·simp at hl
 ·unfold env look at hl
  simp only at hl
  split at hl
  ·rename_i e he
   simp only[Option.some.injEq] at hl
   subst hl
   have h1:e.1=f:=by simpa using List.find?_some he
   subst h1
   exact prims_ok e (List.mem_of_find?_eq_some he)
  ·simp at hl
theorem mkC {f dp:Nat} (fn:Func) (κs:List K) (ts:List Nat) {run:List D→Option D} {p:Bool} {cons:List (Nat×Con)} {exts:List (Nat×Ext)} {hints:List (Nat×Nat×Hint)} {M:Nat} {T:Tbl}
  (hf:Tryz.prog.funcs[f]? = some fn) (hs:fn.params.toList.map ty=κs) (hr:fn.resultTypes.toList=ts) (hp:(!p||ts.all fun t=>K.flat ty 20 (ty t))=true) (hc:∀e∈cons,ConOk e) (hx:∀e∈exts,XOk e) (hT:AllOk (env cons exts hints M) T)
  (h:∀a:Args κs,callS (env cons exts hints M) T dp (.fn f) (List.zipWith V.d κs (Args.ds κs a)) [] (fun v H=>finish ty ts v H)=run (Args.ds κs a)):ConOk (f,{ run:=run,plain:=p }):=by
 intro fn' hfn
 obtain rfl:fn=fn':=Option.some.inj (hf.symm.trans hfn)
 exact okC hgl hs hr hp (envOk hc hx) rfl hT h
theorem mkF {f dp:Nat} (fn:Func) (κs:List K) (ts:List Nat) {run:List D→Option D} {cons:List (Nat×Con)} {exts:List (Nat×Ext)} {hints:List (Nat×Nat×Hint)} {M:Nat} {T:Tbl}
  (hf:Tryz.prog.funcs[f]? = some fn) (hs:fn.params.toList.map ty=κs) (hr:fn.resultTypes.toList=ts) (hc:∀e∈cons,ConOk e) (hx:∀e∈exts,XOk e) (hT:AllOk (env cons exts hints M) T)
  (h:∀a:Args κs,callS (env cons exts hints M) T dp (.fn f) (List.zipWith V.d κs (Args.ds κs a)) [] (fun v H=>finishFresh ty ts v H)=run (Args.ds κs a)):ConOk (f,{ run:=run,fresh:=true }):=by
 intro fn' hfn
 obtain rfl:fn=fn':=Option.some.inj (hf.symm.trans hfn)
 exact okF hgl hs hr (envOk hc hx) rfl hT h
theorem fun155:Tryz.prog.funcs[155]? = some Tryz.f155:=by kernel_rfl
theorem decode_ok:ConOk (155,decodeC):=by
 intro fn hfn
 obtain rfl:Tryz.f155=fn:=Option.some.inj (fun155.symm.trans hfn)
 exact decodeC_ok (ρ:=Tryz.lays197_ren) Tryz.lays197 (fun _ h=>h) (t5:=Tryz.f155.resultTypes[0]!) (t3:=Tryz.f155.resultTypes[1]!) (by kernel_rfl) (by kernel_rfl) (by kernel_rfl) (by kernel_rfl)
theorem insert_ok:XOk (126,insertX 9):=insertX_ok (ρ:=Tryz.lays22_ren) tyOk Tryz.lays22 (by kernel_rfl) (by kernel_rfl)
end Go.AM.SZ
