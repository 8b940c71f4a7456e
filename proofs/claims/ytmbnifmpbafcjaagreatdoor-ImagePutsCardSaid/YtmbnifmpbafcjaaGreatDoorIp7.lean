/- Part 7 of the proof: the abstract machine, what the functions compute, and plain laws over that. -/
import Derived.Test.YtmbnifmpbafcjaaGreatDoorIp6
import Derived.Shelf.Unicode.DecodeAny
import Derived.Shelf.Spec.SlicesInsert
import Derived.Shelf.Spec.SlicesInsertGrow
import Derived.RecoverIn
import Derived.Shelf.Strings.Builder1
import Derived.Shelf.Sort.Plain
import Derived.Shelf.Slices.In.SortNone
import Derived.Test.YtmbnifmpbafcjaaGreatDoorProg
import Derived.KernelRfl
set_option linter.all false
set_option linter.unusedSimpArgs false
set_option linter.unusedVariables false
set_option linter.unusedSectionVars false
namespace Go.AM
open Go Go.RowKit Go.Proofs
section
variable {P:Program} {ρ:Go.Shelf.Ren} {ty:Nat→K} {cd:Cd} {I:World→Prop} {gl:Nat}
def decodeC:Con:={ run:=fun ds=>match ds with | [d]=>some (.tup [.int .i32 (Lib.decodeGo d.s).1,.int .i64 (Lib.decodeGo d.s).2]) | _=>none,plain:=true }
theorem decodeC_ok (L:Lays.n197 P ρ) (hI:∀w,I w→Lib.Utf8Tabs (ρ.g 3) (ρ.g 4) w) {fn:Func} {t5 t3:Nat} (hp:fn.params.toList.map ty=[.str]) (hr:fn.resultTypes.toList=[t5,t3]) (h5:ty t5 = .int .i32) (h3:ty t3 = .int .i64) :
  Contract P ty I (ρ.f 197) fn decodeC:=by
 intro X w ds xs r hIw hX hE hrun
 rw[hp] at hE
 match ds,hE with
 | [d],hE=>
  simp only[Each] at hE
  obtain⟨κ,κs',x,rest,he,rfl,hx,hn,rfl⟩:=hE
  simp only[List.cons.injEq] at he
  obtain⟨rfl,_⟩:=he
  have hs:=rep_str hx
  subst hs
  simp only[decodeC,Option.some.injEq] at hrun
  subst hrun
  refine(Any.utf8_DecodeRuneInString L d.s w (hI w hIw)).mono ?_
  rintro e w' ⟨rfl,hb⟩
  refine⟨_,rfl,hb,?_⟩
  have hpl:decodeC.plain=true:=rfl
  rw[if_pos hpl]
  intro M
  rw[hr]
  refine⟨_,_,rfl,rfl,?_⟩
  simp only[List.map_cons,List.map_nil,h5,h3,Each,Rep]
  exact⟨_,_,_,_,rfl,rfl,⟨rfl,rfl⟩,_,_,_,_,rfl,rfl,⟨rfl,rfl⟩,rfl,rfl⟩
 | [],hE=>simp[Each] at hE
 | d1::d2::ds,hE=>
  simp only[Each] at hE
  obtain⟨κ,κs',x,rest,he,rfl,hx,κ2,κs2,x2,r2,h2,_⟩:=hE
  rw[h2] at he
  simp at he
def insertX (e:Nat):Ext:=fun args H=>match args with
 | [s,.d (.int .i64) x,.sref b2 off2 len2]=>match H[b2]? with
  | some (.row e2 _ _ ds2)=>
    match s with
    | .sref b off len=>match H[b]? with
     | some (.row e1 true _ ds)=>
      some ((decide (e2=e)&&decide (0<len2))&&(decide (e1=e)&&decide (b≠b2)&&decide (0≤x.i)&&decide (x.i≤(len:Int))&&decide (len+len2≤maxLen)),
       .sref H.length 0 (len+len2),H.set b .dead++[.row e true true (((ds.drop off).take len).take x.i.toNat++(ds2.drop off2).take len2++((ds.drop off).take len).drop x.i.toNat)])
     | _=>none
    | .d (.slice e1) (.slice false [])=>some ((decide (e2=e)&&decide (0<len2))&&(decide (e1=e)&&decide (x.i=0)&&decide (len2≤maxLen)),.sref H.length 0 len2,H++[.row e true true ((ds2.drop off2).take len2)])
    | _=>none
  | _=>none
 | _=>none
theorem setCells_put {b:Nat} {et:Nat} {fz:Nat×Nat}:∀(vs:List Value) (o:Nat) (pre mid post:List Value) (w:World),w.heap[b]? = some (.cells (pre++mid++post).toArray et fz)→mid.length=vs.length→pre.length=o →
  w.setCells b o vs=putBlk w b (.cells (pre++vs++post).toArray et fz)
 | [],o,pre,mid,post,w,h,hm,hp=>by
  have:mid=[]:=by simpa using hm
  subst this
  rw[World.setCells,putBlk_same h]
 | v::vs,o,pre,mid,post,w,h,hm,hp=>by
  cases mid with
  | nil=>simp at hm
  | cons m mid=>
   have h1:=setCell_put (o:=o) (v:=v) h
   have h2:(pre++m::mid++post).toArray.setIfInBounds o v=((pre++[v])++mid++post).toArray:=by
    apply Array.toList_inj.1
    simp[List.set_append,←hp]
   rw[h2] at h1
   rw[World.setCells,h1]
   rw[setCells_put vs (o+1) (pre++[v]) mid post _ (by rw[putBlk_heap,if_pos ⟨rfl,lt_of_block h⟩]) (by simpa using hm) (by simp[hp])]
   simp[putBlk]
theorem below_da (w:World) (o:Obj):Below w.heap.size w (w.drew.alloc o):=
 ⟨rfl,rfl,rfl,by show w.heap.size≤(w.heap.push o).size;simp,fun k hk=>by show (w.heap.push o)[k]? = _;rw[Array.getElem?_push,if_neg (by omega)]⟩
theorem heap_da (w:World) (o:Obj):(w.drew.alloc o).heap[w.heap.size]? = some o:=by show (w.heap.push o)[w.heap.size]? = _;simp
theorem oneCell_of_scal {v:Value} (h:AM.scal v=true):v.oneCell'=true:=by cases v<;>simp_all [AM.scal,Value.oneCell']
theorem insertX_ok (T:TyOk P ty) (L:Lays2.n22 P ρ) {e:Nat} (he:ty e = .str) (h9:ty (ρ.t 9) = .str):ExtOk P ty I gl (ρ.f 22) (insertX e):=by
 intro cd X B0 w0 μ H w args v H' xs _ _ h hargs hrun
 have hone:P.cellsOf e=1:=by rw[T.szOk e (by rw[he];simp),he];rfl
 have hne:ty e≠.bad:=by rw[he];simp
 unfold insertX at hrun
 split at hrun
 ·rename_i s x b2 off2 len2
  simp only[RVt] at hargs
  obtain⟨sv,_,rfl,hs,iv,_,rfl,hi,vv,_,rfl,hv,rfl⟩:=hargs
  replace hi:=hi.resolve_left (by simp)
  obtain⟨_,hi⟩:=hi
  simp only[RV] at hi
  have hiv:=rep_int (hi.1▸hi.2)
  replace hv:=hv.resolve_left (by simp)
  obtain⟨_,hv⟩:=hv
  simp only[RV] at hv
  obtain⟨l2,n2,e2,hμ2,hl2,_,hlen2,hv⟩:=hv
  split at hrun
  ·rename_i e2x own2 nn2 ds2 hH2
   obtain⟨rfl,rfl⟩:=row_loc h hH2 hμ2 hl2
   have hobj2:=h.obj b2 l2 _ hμ2 hH2
   have hc2:e2=e∧0<len2:=by
    split at hrun
    ·split at hrun
     ·simp only[Option.some.injEq,Prod.mk.injEq,Bool.and_eq_true,decide_eq_true_eq] at hrun
      exact hrun.1.1
     ·simp at hrun
    ·simp only[Option.some.injEq,Prod.mk.injEq,Bool.and_eq_true,decide_eq_true_eq] at hrun
     exact hrun.1.1
    ·simp at hrun
   obtain⟨rfl,hpos⟩:=hc2
   have hvirt2:l2.virt=false:=by
    rcases hv with ⟨_,h0,_⟩ | ⟨h0,_⟩ | ⟨h0,_⟩
    ·omega
    ·exact h0
    ·exact h0
   obtain⟨c2,hvv,hc21,hc22,hre2⟩:∃c,vv = .slice (some ⟨l2.blk,l2.base+off2*P.cellsOf e2,none⟩) len2 c∧len2≤c∧off2+c≤l2.cap∧ds2.length≤off2+c:=by
    rcases hv with ⟨h0,_⟩ | ⟨_,c,h1⟩ | ⟨_,h0,_⟩
    ·rw[hvirt2] at h0;simp at h0
    ·exact⟨c,h1⟩
    ·omega
   subst hvv
   simp only[ObjOk] at hobj2
   obtain⟨_,_,_,hobj2⟩:=hobj2
   rw[if_neg (by simp[hvirt2])] at hobj2
   obtain⟨_,hcap2,cs2,et2,fz2,pre2,mid2,post2,hb2,hcs2,hpre2,hrep2,hpost2,hfz2,_⟩:=hobj2
   obtain⟨p1,vs,p2,e2a,l2a,l2b,hvs,_,_⟩:=Reps.drop_take T.szOk hne hrep2 hlen2
   rw[hone] at l2a l2b
   simp only[Nat.mul_one] at l2a l2b
   have hvsc:∀v∈vs,v.oneCell'=true:=fun v hv=>oneCell_of_scal (Reps.scal _ _ _ _ hvs v hv)
   have hvcell:∀(w':World),w'.heap[l2.blk]? = w.heap[l2.blk]?→∀(j:Nat) (v:Value),vs[j]? = some v→w'.cell? ⟨l2.blk,l2.base+off2*P.cellsOf e2+j,none⟩=some v:=by
    intro w' hw' j v hj
    rw[cell_congr hw']
    have:=block_cells hb2 (c1:=pre2++p1) (y:=vs) (c2:=p2++post2) (by rw[hcs2,e2a];simp) j v hj
    simpa[hpre2,l2a,hone,Nat.add_assoc] using this
   split at hrun
   ·rename_i b off len
    replace hs:=hs.resolve_left (by simp)
    obtain⟨_,hs⟩:=hs
    simp only[RV] at hs
    obtain⟨l,n,e1,hμ,hl,_,hlen,hs⟩:=hs
    split at hrun
    ·rename_i e1x nn ds hH
     obtain⟨rfl,rfl⟩:=row_loc h hH hμ hl
     simp only[Option.some.injEq,Prod.mk.injEq,Bool.and_eq_true,decide_eq_true_eq] at hrun
     obtain⟨⟨_,⟨⟨⟨rfl,hbb⟩,hx0⟩,hxl⟩,hmax⟩,hrun⟩:=hrun
     obtain⟨rfl,rfl⟩:=hrun
     unfold maxLen at hmax
     obtain⟨i,hxi⟩:∃i:Nat,x.i=(i:Int):=⟨x.i.toNat,by omega⟩
     rw[hxi] at hiv hxl
     rw[hxi]
     simp only[Int.toNat_natCast]
     subst hiv
     have hil:i≤len:=by omega
     have hobj:=h.obj b l _ hμ hH
     obtain⟨hd1,hd2⟩:=h.less hμ hH (o':=.dead) (by simp[ownB]) (by simp[usesB]) (fun _ _=>trivial)
     have hdl:(H.set b .dead).length=H.length:=by simp
     have hdlen:((ds.drop off).take len).length=len:=by simp;omega
     have hvlen:((ds2.drop off2).take len2).length=len2:=by simp;omega
     have hnew:(((ds.drop off).take len).take i++(ds2.drop off2).take len2++((ds.drop off).take len).drop i).length=len+len2:=by
      simp only[List.length_append,List.length_take,List.length_drop];omega
     have hgrow:∀(w':World) (cap:Nat) (mid post:List Value) (et:Nat),ty et=ty e1→Below w.heap.size w w'→w'.heap[w.heap.size]? = some (.cells (mid++post).toArray et (0,0)) →
       Reps ty (M_ X μ H w) (((ds.drop off).take len).take i++(ds2.drop off2).take len2++((ds.drop off).take len).drop i) (List.replicate (len+len2) (ty e1)) mid→len+len2≤cap∧cap≤maxInt→cap-(len+len2)≤post.length →
       ∃y μ',Ending.returned (.slice (some ⟨w.heap.size,0,none⟩) (len+len2) cap)=Ending.returned y∧HOk ty P.cellsOf cd X B0 w0 μ' (H.set b .dead++[.row e1 true true (((ds.drop off).take len).take i++(ds2.drop off2).take len2++((ds.drop off).take len).drop i)]) w' ∧
        RR ty P.cellsOf (M_ X μ' (H.set b .dead++[.row e1 true true (((ds.drop off).take len).take i++(ds2.drop off2).take len2++((ds.drop off).take len).drop i)]) w') μ' (.sref H.length 0 (len+len2)) y ∧
        Fut X B0 μ.length μ H w μ' (H.set b .dead++[.row e1 true true (((ds.drop off).take len).take i++(ds2.drop off2).take len2++((ds.drop off).take len).drop i)]) w':=by
      intro w' cap mid post et het1 hb hblk hreps hcap hpost
      obtain⟨g1,g2,g3⟩:=newRow_adopt hd1 hb (blk:=w.heap.size) (e:=e1) (cap:=cap) (et:=et) (fz:=(0,0)) (cs:=(mid++post).toArray) (ds:=((ds.drop off).take len).take i++(ds2.drop off2).take len2++((ds.drop off).take len).drop i) (mid:=mid) (post:=post)
       (Nat.le_refl _) hblk hne rfl (fun M' hM=>by rw[hnew];exact Reps.mono _ (Mem.le_trans hd2.mem hM) _ _ _ hreps) (by rw[hnew];exact hcap) (by rw[hnew,hone];omega) (by simp) (.inl het1)
      rw[hnew] at g1 g2 g3
      rw[hdl] at g3
      exact⟨_,_,rfl,g1,g3,⟨g2.loc,g2.len,Mem.le_trans hd2.mem g2.mem,g2.below,g2.dfr⟩⟩
     have hempty:∀(base:Option Addr),len=0→Calls P (ρ.f 22) #[.slice base 0 0,.int .i64 (0:Nat),.slice (some ⟨l2.blk,l2.base+off2*P.cellsOf e1,none⟩) len2 c2] w fun e w'=>∃y μ',e = .returned y∧HOk ty P.cellsOf cd X B0 w0 μ' (H.set b .dead++[.row e1 true true (((ds.drop off).take len).take i++(ds2.drop off2).take len2++((ds.drop off).take len).drop i)]) w' ∧
        RR ty P.cellsOf (M_ X μ' (H.set b .dead++[.row e1 true true (((ds.drop off).take len).take i++(ds2.drop off2).take len2++((ds.drop off).take len).drop i)]) w') μ' (.sref H.length 0 (len+len2)) y ∧
        Fut X B0 μ.length μ H w μ' (H.set b .dead++[.row e1 true true (((ds.drop off).take len).take i++(ds2.drop off2).take len2++((ds.drop off).take len).drop i)]) w':=by
      intro base hl0
      subst hl0
      obtain rfl:i=0:=by omega
      refine(Any2.slices_Insert_string_end_grow L base 0 0 l2.blk (l2.base+off2*P.cellsOf e1) len2 c2 [] vs w hpos (Nat.le_refl _) (by omega) (by omega) rfl l2b (fun _=>rfl) (fun _ _ j v hj=>by simp at hj) (hvcell w rfl) hvsc).mono ?_
      rintro e w' ⟨rfl,rfl⟩
      have hcap:=cap_ge (0+len2) 0 (ρ.t 9) (w.tape w.drawn (.appendCap (0+len2) 0 (ρ.t 9)))
      have hcapm:=cap_le (0+len2) 0 (ρ.t 9) (w.tape w.drawn (.appendCap (0+len2) 0 (ρ.t 9))) (by unfold maxLen;omega)
      refine hgrow _ _ vs (Builtin.zeroCells (Value.string ⟨#[]⟩).cells (grownCap w (0+len2) 0 (ρ.t 9)-(0+len2))).toList (ρ.t 9) (h9.trans he.symm) (below_da _ _) ?_ ?_ ⟨hcap,hcapm⟩ (by simp[Builtin.zeroCells,Value.cells])
      ·rw[heap_da];simp
      ·simpa using hvs
     rcases hs with ⟨hvirt,hl0,a,rfl,ha⟩ | ⟨hvirt,c,rfl,hc,hoc,hreach⟩ | ⟨hvirt,hl0,hreach,ad,rfl⟩
     ·obtain rfl:i=0:=by omega
      exact hempty a hl0
     ·have hob:=hobj
      simp only[ObjOk] at hob
      obtain⟨_,hlnn,_,hob⟩:=hob
      rw[if_neg (by simp[hvirt])] at hob
      obtain⟨hnn,hcap,cs,et,fz,pre,mid,post,hb1,hcs,hpre,hrep,hpost,hfz,het⟩:=hob
      obtain⟨q1,os,q2,e1a,l1a,l1b,hos,_,hq2⟩:=Reps.drop_take T.szOk hne hrep hlen
      have hq2l:q2.length=ds.length-(off+len):=by
       have:=(Reps.size T.szOk _ _ _ hq2).2 (List.replicate (ds.length-(off+len)) e1) (by simp)
       simpa[hone] using this
      have hpl:l.cap-ds.length≤post.length:=by rw[hone] at hpost;omega
      rw[hone] at l1a l1b
      simp only[Nat.mul_one] at l1a l1b
      have hosc:∀v∈os,v.oneCell'=true:=fun v hv=>oneCell_of_scal (Reps.scal _ _ _ _ hos v hv)
      have hblk:w.heap[l.blk]? = some (.cells ((pre++q1)++os++(q2++post)).toArray et fz):=by
       rw[hb1];congr 2;apply Array.toList_inj.1;rw[hcs,e1a];simp
      have hcell:∀(w':World),w'.heap[l.blk]? = w.heap[l.blk]?→∀(j:Nat) (v:Value),os[j]? = some v→w'.cell? ⟨l.blk,l.base+off*P.cellsOf e1+j,none⟩=some v:=by
       intro w' hw' j v hj
       rw[cell_congr hw']
       have:=block_cells hblk (c1:=pre++q1) (y:=os) (c2:=q2++post) (by simp) j v hj
       simpa[hpre,l1a,hone,Nat.add_assoc] using this
      have hp0:(pre++q1).length=l.base+off*P.cellsOf e1:=by simp[hpre,l1a,hone]
      have hroomlen:c-len≤(q2++post).length:=by rw[List.length_append,hq2l];omega
      have hcsz:cs.size=((pre++q1)++os++(q2++post)).length:=by
       have h1:cs.size=cs.toList.length:=by simp
       rw[h1,hcs,e1a];simp
      have hcf:∀j,j<c→(w.cell? ⟨l.blk,l.base+off*P.cellsOf e1+j,none⟩).isSome=true∧w.frozen? ⟨l.blk,l.base+off*P.cellsOf e1+j,none⟩=false:=by
       intro j hj
       have hlt:l.base+off*P.cellsOf e1+j<((pre++q1)++os++(q2++post)).length:=by
        rw[List.length_append,List.length_append,hp0,l1b];omega
       constructor
       ·rw[cell_of_block hblk];simp only[List.getElem?_toArray];rw[List.getElem?_eq_getElem hlt];rfl
       ·rw[frozen_of_block hblk]
        have:=hfz (l.base+off*P.cellsOf e1+j) (by rw[hcsz];exact Nat.lt_add_right _ hlt)
        simp at this ⊢;omega
      have hnb:l2.blk≠l.blk:=by
       intro hEq
       have h1:Own μ H b l.blk:=⟨l,_,hμ,hH,by simp[ownB,hvirt]⟩
       have h2:Uses μ H b2 l.blk:=⟨l2,_,hμ2,hH2,by simp[usesB,hvirt2,hEq]⟩
       exact hbb (h.inj _ _ _ h1 h2)
      have hreps:Reps ty (M_ X μ H w) (((ds.drop off).take len).take i++(ds2.drop off2).take len2++((ds.drop off).take len).drop i) (List.replicate (len+len2) (ty e1)) (os.take i++vs++os.drop i):=by
       have hos':Reps ty (M_ X μ H w) ((ds.drop off).take len) (List.replicate ((ds.drop off).take len).length (ty e1)) os:=by rw[hdlen];exact hos
       obtain⟨r1,r2,r3,er,lr1,lr2,hr2,hr1,hr3⟩:=Reps.drop_take T.szOk hne hos' (i:=i) (n:=0) (by rw[hdlen];omega)
       rw[hone] at lr1 lr2
       have hr20:r2=[]:=List.eq_nil_of_length_eq_zero (by simpa using lr2)
       subst hr20
       have ht:os.take i=r1:=by rw[er,List.append_nil];exact List.take_left' (by simpa using lr1)
       have hd:os.drop i=r3:=by rw[er,List.append_nil];exact List.drop_left' (by simpa using lr1)
       rw[ht,hd]
       rw[hdlen] at hr3
       have ek:List.replicate (len+len2) (ty e1)=List.replicate i (ty e1)++List.replicate len2 (ty e1)++List.replicate (len-(i+0)) (ty e1):=by
        rw[List.replicate_append_replicate,List.replicate_append_replicate];congr 1;omega
       rw[ek]
       exact(hr1.append hvs).append (by simpa using hr3)
      have hin:∀(w':World) (post':List Value),len+len2≤c→(∃k,w'=putBlk { w with drawn:=k } l.blk (.cells ((pre++q1)++(os.take i++vs++os.drop i)++post').toArray et fz))→c-(len+len2)≤post'.length→((pre++q1)++(os.take i++vs++os.drop i)++post').length=cs.size →
        ∃y μ',Ending.returned (.slice (some ⟨l.blk,l.base+off*P.cellsOf e1,none⟩) (len+len2) c)=Ending.returned y∧HOk ty P.cellsOf cd X B0 w0 μ' (H.set b .dead++[.row e1 true true (((ds.drop off).take len).take i++(ds2.drop off2).take len2++((ds.drop off).take len).drop i)]) w' ∧
        RR ty P.cellsOf (M_ X μ' (H.set b .dead++[.row e1 true true (((ds.drop off).take len).take i++(ds2.drop off2).take len2++((ds.drop off).take len).drop i)]) w') μ' (.sref H.length 0 (len+len2)) y ∧
        Fut X B0 μ.length μ H w μ' (H.set b .dead++[.row e1 true true (((ds.drop off).take len).take i++(ds2.drop off2).take len2++((ds.drop off).take len).drop i)]) w':=by
       intro w' post' hroom hw' hpost' hsz
       obtain⟨k,rfl⟩:=hw'
       have hbel:Below w.heap.size w { w with drawn:=k }:=⟨rfl,rfl,rfl,Nat.le_refl _,fun _ _=>rfl⟩
       obtain⟨f1,f2⟩:=h.grow hbel
       obtain⟨g1,g2⟩:=HOk.killPut f1 (l':=⟨l.blk,l.base+off*P.cellsOf e1,c,.array (len+len2) e1,false,true⟩) (o':=.row e1 true true (((ds.drop off).take len).take i++(ds2.drop off2).take len2++((ds.drop off).take len).drop i))
        (obj:=.cells ((pre++q1)++(os.take i++vs++os.drop i)++post').toArray et fz) hμ hH (by simp[ownB,hvirt]) (by simp[ownB]) (fun M' hM=>by
         simp only[ObjOk]
         refine⟨by rw[hnew],trivial,hne,?_⟩
         rw[if_neg (by simp)]
         refine⟨trivial,by rw[hnew];omega,((pre++q1)++(os.take i++vs++os.drop i)++post').toArray,et,fz,pre++q1,os.take i++vs++os.drop i,post',?_,by simp,hp0,?_,?_,?_,het.size (by rw[←hsz];simp)⟩
         ·rw[putBlk_heap,if_pos ⟨rfl,lt_of_block hb1⟩]
         ·rw[hnew];exact Reps.mono _ (Mem.le_trans f2.mem hM) _ _ _ hreps
         ·rw[hnew,hone];simpa using hpost'
         ·intro o ho
          exact hfz o (by rw[←hsz];simpa using ho))
       refine⟨_,_,rfl,g1,.inr ⟨.slice e1,?_⟩,Fut.trans (Nat.le_refl _) f2 g2⟩
       simp only[RV]
       refine⟨⟨l.blk,l.base+off*P.cellsOf e1,c,.array (len+len2) e1,false,true⟩,len+len2,e1,?_,rfl,rfl,by omega,.inr (.inl ⟨rfl,c,by simp,hroom,by simp,by simpa using hroom⟩)⟩
       rw[←h.len];simp
      by_cases hend:i=len
      ·subst hend
       have htk:os.take i=os:=List.take_of_length_le (by omega)
       have hdk:os.drop i=[]:=List.drop_of_length_le (by omega)
       by_cases hroom:i+len2≤c
       ·have hseg:((q2++post).take len2).length=vs.length:=by rw[List.length_take,l2b];omega
        have hput:=fun (w1:World) (hw1:w1.heap[l.blk]? = w.heap[l.blk]?)=>setCells_put (b:=l.blk) vs (l.base+off*P.cellsOf e1+i) ((pre++q1)++os) ((q2++post).take len2) ((q2++post).drop len2) w1 (by rw[hw1,hblk,List.append_assoc ((pre++q1)++os),List.take_append_drop]) hseg (by rw[List.length_append,hp0,l1b])
        refine(Any2.slices_Insert_string_end_room L l.blk (l.base+off*P.cellsOf e1) i c l2.blk (l2.base+off2*P.cellsOf e1) len2 c2 vs w hpos hroom (by
         unfold maxInt at hcap;omega) l2b (fun j hj=>by rw[Nat.add_assoc];exact(hcf (i+j) (by omega)).1) (fun j hj=>by rw[Nat.add_assoc];exact(hcf (i+j) (by omega)).2) (hvcell w rfl) hvsc).mono ?_
        rintro e w' ⟨rfl,rfl⟩
        refine hin _ ((q2++post).drop len2) hroom ⟨w.drawn,?_⟩ (by rw[List.length_drop];omega) ?_
        ·rw[hput w rfl]
         rw[htk,hdk]
         simp
        ·rw[hcsz,htk,hdk]
         simp only[List.length_append,List.length_drop,List.length_nil,l2b] at hroomlen ⊢;omega
       ·refine(Any2.slices_Insert_string_end_grow L (some ⟨l.blk,l.base+off*P.cellsOf e1,none⟩) i c l2.blk (l2.base+off2*P.cellsOf e1) len2 c2 os vs w hpos hc (by omega) (by omega) l1b l2b (fun h0=>by simp at h0)
         (fun ad had j v hj=>by simp only[Option.some.injEq] at had;subst had;rw[addr_add rfl];exact hcell w rfl j v hj) (hvcell w rfl) hvsc).mono ?_
        rintro e w' ⟨rfl,rfl⟩
        have hcap:=cap_ge (i+len2) c (ρ.t 9) (w.tape w.drawn (.appendCap (i+len2) c (ρ.t 9)))
        have hcapm:=cap_le (i+len2) c (ρ.t 9) (w.tape w.drawn (.appendCap (i+len2) c (ρ.t 9))) (by unfold maxLen;omega)
        refine hgrow _ _ (os.take i++vs++os.drop i) (Builtin.zeroCells (Value.string ⟨#[]⟩).cells (grownCap w (i+len2) c (ρ.t 9)-(i+len2))).toList (ρ.t 9) (h9.trans he.symm) (below_da _ _) ?_ hreps ⟨hcap,hcapm⟩ (by simp[Builtin.zeroCells,Value.cells])
        rw[heap_da,htk,hdk]
        simp
      ·have hilt:i<len:=by omega
       by_cases hroom:len+len2≤c
       ·refine(Any2.slices_Insert_string_shift L l.blk (l.base+off*P.cellsOf e1) len c i l2.blk (l2.base+off2*P.cellsOf e1) len2 c2 os vs w hilt hpos hroom (by unfold maxInt at hcap;omega) hnb l1b l2b
         (hcell w rfl) (fun j hj=>(hcf j (by omega)).1) (fun j hj=>(hcf j (by omega)).2) (hvcell w rfl) hosc hvsc et2 et cs2.size cs.size (by simp[World.shape?,hb2]) (by simp[World.shape?,hb1]) (by rw[hcsz];simp only[List.length_append,l1b];omega) ?_ ?_).mono ?_
        ·rw[frozen_of_block hb2]
         have:=hfz2 (l2.base+off2*P.cellsOf e1) (by
          have h1:cs2.size=cs2.toList.length:=by simp
          rw[h1,hcs2,e2a,hone];simp only[List.length_append,hpre2,l2a,l2b];omega)
         simp at this ⊢;omega
        ·rw[frozen_of_block hb2]
         have:=hfz2 cs2.size (by rw[he];simp[slk])
         simp at this ⊢;omega
        rintro e w' ⟨rfl,rfl⟩
        have hT:(os.drop i++(q2++post)).length=(len-i)+(q2++post).length:=by rw[List.length_append,List.length_drop,l1b]
        have hput1:=setCells_put (b:=l.blk) (os.drop i) (l.base+off*P.cellsOf e1+(i+len2)) ((pre++q1)++os.take i++(os.drop i++(q2++post)).take len2) (((os.drop i++(q2++post)).drop len2).take (len-i)) ((os.drop i++(q2++post)).drop (len2+(len-i))) w.drew
         (et:=et) (fz:=fz) (by
          show w.heap[l.blk]? = _
          rw[hblk];congr 2;apply Array.toList_inj.1
          show (pre++q1)++os++(q2++post)=(pre++q1)++os.take i++(os.drop i++(q2++post)).take len2++((os.drop i++(q2++post)).drop len2).take (len-i)++(os.drop i++(q2++post)).drop (len2+(len-i))
          rw[←List.drop_drop,List.append_assoc _ (((os.drop i++(q2++post)).drop len2).take (len-i)),List.take_append_drop,List.append_assoc _ ((os.drop i++(q2++post)).take len2),List.take_append_drop,List.append_assoc (pre++q1),List.append_assoc (pre++q1),←List.append_assoc (os.take i),List.take_append_drop])
         (by rw[List.length_take,List.length_drop,List.length_drop,hT,l1b];omega) (by rw[List.length_append,List.length_append,hp0,List.length_take,List.length_take,hT,l1b];omega)
        rw[hput1]
        have hput2:=setCells_put (b:=l.blk) vs (l.base+off*P.cellsOf e1+i) ((pre++q1)++os.take i) ((os.drop i++(q2++post)).take len2) (os.drop i++(os.drop i++(q2++post)).drop (len2+(len-i))) (putBlk w.drew l.blk (.cells ((pre++q1)++os.take i++(os.drop i++(q2++post)).take len2++os.drop i++(os.drop i++(q2++post)).drop (len2+(len-i))).toArray et fz))
         (et:=et) (fz:=fz) (by rw[putBlk_heap,if_pos ⟨rfl,lt_of_block (w:=w.drew) hb1⟩];simp) (by rw[List.length_take,hT,l2b];omega) (by rw[List.length_append,hp0,List.length_take,l1b];omega)
        rw[hput2]
        refine hin _ ((os.drop i++(q2++post)).drop (len2+(len-i))) hroom ⟨w.drawn+1,?_⟩ (by rw[List.length_drop,hT];omega) ?_
        ·show putBlk (putBlk w.drew _ _) _ _=putBlk w.drew _ _
         simp[putBlk]
        ·rw[hcsz];simp only[List.length_append,List.length_drop,List.length_take,l1b,l2b] at hT hroomlen ⊢;omega
       ·refine(Any2.slices_Insert_string_grow L l.blk (l.base+off*P.cellsOf e1) len c i l2.blk (l2.base+off2*P.cellsOf e1) len2 c2 os vs w hilt hpos hc (by omega) (by omega) l1b l2b (hcell w rfl) (hvcell w rfl) hosc hvsc).mono ?_
        rintro e w' ⟨rfl,rfl⟩
        have hcap:=cap_ge (len+len2) c (ρ.t 9) (w.tape w.drawn (.appendCap (len+len2) c (ρ.t 9)))
        have hcapm:=cap_le (len+len2) c (ρ.t 9) (w.tape w.drawn (.appendCap (len+len2) c (ρ.t 9))) (by unfold maxLen;omega)
        have hdr:∀(w1:World) (cs:Array Value) (t:Nat),(w1.alloc (.cells cs t)).drew.heap[w1.heap.size]? = some (.cells cs t (0,0)):=by
         intro w1 cs t;show (w1.heap.push _)[w1.heap.size]? = _;simp
        have hz:∀n,(Builtin.zeroCells (Value.string ⟨#[]⟩).cells n).toList.length=n:=by intro n;simp[Builtin.zeroCells,Value.cells]
        generalize hZ1:Builtin.zeroCells (Value.string ⟨#[]⟩).cells (len+len2-i)=Z1
        generalize hZ2:Builtin.zeroCells (Value.string ⟨#[]⟩).cells (grownCap w (len+len2) c (ρ.t 9)-(len+len2))=Z2
        have hz1:Z1.toList.length=len+len2-i:=by rw[←hZ1];exact hz _
        have hz2:Z2.toList.length=grownCap w (len+len2) c (ρ.t 9)-(len+len2):=by rw[←hZ2];exact hz _
        have hput1:=setCells_put (b:=w.heap.size) vs i (os.take i) (Z1.toList.take len2) (Z1.toList.drop len2++Z2.toList) (w.alloc (.cells ((os.take i).toArray++Z1++Z2) (ρ.t 9))).drew
         (et:=ρ.t 9) (fz:=(0,0)) (by rw[hdr];congr 2;apply Array.toList_inj.1;simp only[Array.toList_append,List.append_assoc];rw[←List.append_assoc (Z1.toList.take len2),List.take_append_drop])
         (by rw[List.length_take,hz1,l2b];omega) (by rw[List.length_take,l1b];omega)
        rw[hput1]
        have hput2:=setCells_put (b:=w.heap.size) (os.drop i) (i+len2) (os.take i++vs) (Z1.toList.drop len2) Z2.toList (putBlk (w.alloc (.cells ((os.take i).toArray++Z1++Z2) (ρ.t 9))).drew w.heap.size (.cells (os.take i++vs++(Z1.toList.drop len2++Z2.toList)).toArray (ρ.t 9) (0,0))).drew
         (et:=ρ.t 9) (fz:=(0,0)) (by show (putBlk _ _ _).heap[_]? = _;rw[putBlk_heap,if_pos ⟨rfl,lt_of_block (hdr _ _ _)⟩];simp)
         (by rw[List.length_drop,List.length_drop,hz1,l1b];omega) (by rw[List.length_append,List.length_take,l1b,l2b];omega)
        rw[hput2]
        refine hgrow _ _ (os.take i++vs++os.drop i) Z2.toList (ρ.t 9) (h9.trans he.symm) ?_ ?_ hreps ⟨hcap,hcapm⟩ (by rw[hz2];exact Nat.le_refl _)
        ·refine⟨rfl,rfl,rfl,?_,fun k hk=>?_⟩
         ·show w.heap.size≤(((w.heap.push _).setIfInBounds _ _).setIfInBounds _ _).size
          simp
         ·show (((w.heap.push _).setIfInBounds _ _).setIfInBounds _ _)[k]? = _
          simp only[Array.getElem?_setIfInBounds,Array.getElem?_push]
          rw[if_neg (by omega),if_neg (by omega),if_neg (by omega)]
        ·rw[putBlk_heap,if_pos ⟨rfl,lt_of_block (w:=(putBlk _ _ _).drew) (by show (putBlk _ _ _).heap[_]? = _;rw[putBlk_heap,if_pos ⟨rfl,lt_of_block (hdr _ _ _)⟩])⟩]
     ·obtain rfl:i=0:=by omega
      exact hempty (some ad) hl0
    ·simp at hrun
   ·rename_i e1
    replace hs:=hs.resolve_left (by simp)
    obtain⟨_,hs⟩:=hs
    simp only[RV] at hs
    obtain⟨rfl,hs⟩:=hs
    simp only[Rep] at hs
    obtain⟨_,ad,cap0,_,rfl,_,hnn,hnil,_⟩:=hs
    have had:ad=none:=by cases ad with | none=>rfl | some _=>simp at hnn
    subst had
    obtain rfl:=hnil rfl
    simp only[Option.some.injEq,Prod.mk.injEq,Bool.and_eq_true,decide_eq_true_eq] at hrun
    obtain⟨⟨_,⟨rfl,hx0⟩,hmax⟩,hrun⟩:=hrun
    obtain⟨rfl,rfl⟩:=hrun
    unfold maxLen at hmax
    rw[hx0] at hiv
    subst hiv
    refine(Any2.slices_Insert_string_end_grow L none 0 0 l2.blk (l2.base+off2*P.cellsOf e1) len2 c2 [] vs w hpos (Nat.le_refl _) (by omega) (by omega) rfl l2b (fun _=>rfl) (fun _ _ j v hj=>by simp at hj) (hvcell w rfl) hvsc).mono ?_
    rintro e w' ⟨rfl,rfl⟩
    have hcap:=cap_ge (0+len2) 0 (ρ.t 9) (w.tape w.drawn (.appendCap (0+len2) 0 (ρ.t 9)))
    have hcapm:=cap_le (0+len2) 0 (ρ.t 9) (w.tape w.drawn (.appendCap (0+len2) 0 (ρ.t 9))) (by unfold maxLen;omega)
    have hvl:((ds2.drop off2).take len2).length=len2:=by simp;omega
    obtain⟨g1,g2,g3⟩:=newRow_adopt h (w':=w.drew.alloc (.cells (([]++vs).toArray++Builtin.zeroCells (Value.string ⟨#[]⟩).cells (grownCap w (0+len2) 0 (ρ.t 9)-(0+len2))) (ρ.t 9))) (below_da _ _) (blk:=w.heap.size) (e:=e1) (cap:=grownCap w (0+len2) 0 (ρ.t 9)) (et:=ρ.t 9) (fz:=(0,0))
     (cs:=([]++vs).toArray++Builtin.zeroCells (Value.string ⟨#[]⟩).cells (grownCap w (0+len2) 0 (ρ.t 9)-(0+len2))) (ds:=(ds2.drop off2).take len2) (mid:=vs) (post:=(Builtin.zeroCells (Value.string ⟨#[]⟩).cells (grownCap w (0+len2) 0 (ρ.t 9)-(0+len2))).toList)
     (Nat.le_refl _) (heap_da _ _) hne (by simp) (fun M' hM=>by rw[hvl];exact Reps.mono _ hM _ _ _ hvs) (by rw[hvl];rw[Nat.zero_add] at hcap hcapm ⊢;exact⟨hcap,hcapm⟩) (by rw[hvl,hone];simp[Builtin.zeroCells,Value.cells]) (by simp) (.inl (h9.trans he.symm))
    rw[hvl] at g1 g2 g3
    rw[Nat.zero_add] at g1 g2 g3 ⊢
    exact⟨_,_,rfl,g1,g3,g2⟩
   ·simp at hrun
  ·simp at hrun
 ·simp at hrun
end
end Go.AM
namespace Go.AM
open Go Go.RowKit
def add64P:List D→Option D
 | [x,y,c]=>bif Nat.ble c.i.toNat 1 then some (.tup [.int .u64 (((x.i.toNat+y.i.toNat+c.i.toNat)%18446744073709551616:Nat):Int),.int .u64 (((x.i.toNat+y.i.toNat+c.i.toNat) / 18446744073709551616:Nat):Int)]) else none
 | _=>none
def add64E:Array Value→Sem Value:=fun args=>do
 let (x,y,c) ←Extern.MathBitsCarry.three "Add64" args
 pure (Extern.MathBitsCarry.pair ((x+y+c)%Extern.MathBitsCarry.m64) ((x+y+c) / Extern.MathBitsCarry.m64))
theorem run_asInt {P:Program} {k:IntKind} {n:Int} (w:World):(asInt (.int k n)).run P w = .ok n w:=by rfl
theorem add64_ok {P:Program} {ty:Nat→K} {f:Nat} {fn0:Func} (hf:P.funcs[f]? = some fn0) (hg:(fn0.name == "runtime.NumGoroutine")=false) (hb:fn0.body.isNone=true) (h1:Extern.findNext fn0=none) (h2:Extern.find fn0=some add64E)
  (hp:fn0.params.toList.map ty=[.int .u64,.int .u64,.int .u64]) {t1 t2:Nat} (hr:fn0.resultTypes.toList=[t1,t2]) (ht1:ty t1 = .int .u64) (ht2:ty t2 = .int .u64):PrimOk P ty f add64P:=by
 intro fn M ds xs r w hfn hE hrun
 rw[hf] at hfn
 simp only[Option.some.injEq] at hfn
 subst hfn
 rw[hp] at hE
 unfold add64P at hrun
 split at hrun
 ·rename_i x y c
  simp only[Each] at hE
  obtain⟨_,_,vx,_,e1,rfl,hx,_,_,vy,_,e2,rfl,hy,_,_,vc,_,e3,rfl,hc,_,e4⟩:=hE
  simp only[List.cons.injEq] at e1
  obtain⟨rfl,rfl⟩:=e1
  simp only[List.cons.injEq] at e2
  obtain⟨rfl,rfl⟩:=e2
  simp only[List.cons.injEq] at e3
  obtain⟨rfl,rfl⟩:=e3
  have hvx:=rep_int hx
  have hvy:=rep_int hy
  have hvc:=rep_int hc
  subst hvx hvy hvc
  rw[Bool.cond_eq_ite] at hrun
  split at hrun
  ·rename_i hle
   simp only[Option.some.injEq] at hrun
   subst hrun
   have hc1:¬c.i.toNat>1:=by have:=Nat.le_of_ble_eq_true hle;omega
   refine⟨Extern.MathBitsCarry.pair ((x.i.toNat+y.i.toNat+c.i.toNat)%Extern.MathBitsCarry.m64) ((x.i.toNat+y.i.toNat+c.i.toNat) / Extern.MathBitsCarry.m64),?_,fun M'=>?_⟩
   ·simp only[callFunc,run_bind,program,Sem.run,hf,hg,hb,Bool.false_eq_true,if_false,if_true,h1,h2,run_mark]
    have hrun:Sem.run P (add64E #[.int .u64 x.i,.int .u64 y.i,.int .u64 c.i]) w = .ok (Extern.MathBitsCarry.pair ((x.i.toNat+y.i.toNat+c.i.toNat)%Extern.MathBitsCarry.m64) ((x.i.toNat+y.i.toNat+c.i.toNat) / Extern.MathBitsCarry.m64)) w:=by
     have h3:Sem.run P (Extern.MathBitsCarry.three "Add64" #[.int .u64 x.i,.int .u64 y.i,.int .u64 c.i]) w = .ok (x.i.toNat,y.i.toNat,c.i.toNat) w:=by
      show Sem.run P (Bind.bind (asInt (.int .u64 c.i)) _) w=_
      rw[run_bind,run_asInt]
      simp only[if_neg hc1,run_bind,run_pure,run_asInt]
      rfl
     simp only[add64E,run_bind,h3,run_pure]
    subst e4
    rw[show (Value.int IntKind.u64 x.i::Value.int IntKind.u64 y.i::Value.int IntKind.u64 c.i::([]:List Value)).toArray = #[.int .u64 x.i,.int .u64 y.i,.int .u64 c.i] from rfl,hrun]
    rfl
   ·rw[hr]
    simp only[ResRep]
    refine⟨_,_,rfl,rfl,?_⟩
    simp only[List.map_cons,List.map_nil,ht1,ht2,Each]
    exact⟨_,_,_,_,rfl,rfl,⟨rfl,rfl⟩,_,_,_,_,rfl,rfl,⟨rfl,rfl⟩,rfl,rfl⟩
  ·simp at hrun
 ·simp at hrun
end Go.AM
namespace Go.AM
open Go Go.RowKit
def plainOp:Op→Bool
 | .move _ | .assign _ | .alloc _ | .store _ _ _ | .typeAssert _ _ _ _ | .extract _ _=>true
 | _=>false
theorem plain_next {P:Program} {o:Oper} {ρ:Operand→Value} {w w':World} {n:Next} (hp:plainOp o.op=true) (h:(execOp ρ o).run P w = .ok n w'):(∃v,n = .value v)∨n = .skip:=by
 have hv:∀s:Sem Value,(do pure (Next.value (←s)):Sem Next).run P w = .ok n w'→∃v,n = .value v:=by
  intro s hs
  rw[run_bind] at hs
  cases h1:s.run P w with
  | ok x w2=>rw[h1] at hs;simp only[run_pure] at hs;obtain⟨rfl,_⟩:Next.value x=n∧w2=w':=by simpa using hs
             exact⟨x,rfl⟩
  | halt x w2=>rw[h1] at hs;simp at hs
 have hu:∀s:Sem Unit,(do s;pure Next.skip:Sem Next).run P w = .ok n w'→n = .skip:=by
  intro s hs
  rw[run_bind] at hs
  cases h1:s.run P w with
  | ok x w2=>rw[h1] at hs;simp only[run_pure] at hs;obtain⟨rfl,_⟩:Next.skip=n∧w2=w':=by simpa using hs
             rfl
  | halt x w2=>rw[h1] at hs;simp at hs
 unfold execOp at h
 unfold plainOp at hp
 split at hp<;>rename_i ho<;>(try simp only[ho] at h)<;>(try (simp at hp;done))
 ·simp only[run_pure] at h;obtain⟨rfl,_⟩:Next.value _=n∧w=w':=by simpa using h
  exact .inl ⟨_,rfl⟩
 ·simp only[run_pure] at h;obtain⟨rfl,_⟩:Next.value _=n∧w=w':=by simpa using h
  exact .inl ⟨_,rfl⟩
 ·exact .inl (hv _ h)
 ·exact .inr (hu _ h)
 ·exact .inl (hv _ h)
 ·exact .inl (hv _ h)
section
variable {P:Program} {F:Fence} {n:Nat} {ops:Array Oper}
theorem wpOpsS_of {Q:Exit→Act→List Frame→World→Prop} {cs:List Frame} (hro:F.round=none):∀(l:List Nat) (a:Act) (w:World),(∀(i:Nat) o,i∈l→ops[i]? = some o→plainOp o.op=true)→wpOpsIn F n P ops (fun e a w=>Q e a cs w) l a w→wpOpsSIn F n P ops Q l a cs w
 | [],a,w,_,h=>by simpa[wpOpsIn,wpOpsSIn] using h
 | i::l,a,w,hp,h=>by
  simp only[wpOpsIn,wpOpsSIn] at h ⊢
  cases ho:ops[i]? with
  | none=>rw[ho] at h;exact wpOpsS_of hro l a w (fun j o hj=>hp j o (by simp[hj])) h
  | some o=>
   rw[ho] at h
   have hpo:=hp i o (by simp) ho
   have ih:=fun a w=>wpOpsS_of (Q:=Q) (cs:=cs) hro l a w (fun j o hj=>hp j o (by simp[hj]))
   simp only at h ⊢
   split at h
   ·rename_i hw
    refine⟨h.1,?_⟩
    rw[if_pos hw]
    have h2:=h.2
    rw[hro,Oper.semAt_none] at h2
    cases hr:(execOp a.eval o).run P w with
    | ok x w'=>
     rw[hr] at h2
     rcases plain_next hpo hr with ⟨v,rfl⟩ | rfl
     ·simp only[Oper.uponIn] at h2 ⊢;exact ih _ _ h2
     ·simp only[Oper.uponIn] at h2 ⊢;exact ih _ _ h2
    | halt x w'=>
     rw[hr] at h2
     cases x<;>simp only[Oper.uponIn] at h2 ⊢<;>exact h2
   ·rename_i hw
    refine⟨h.1,?_⟩
    rw[if_neg hw]
    exact ih _ _ h.2
end
def cHd:Code→Code | .seq a _=>a | c=>c
def cTl:Code→Code | .seq _ b=>b | c=>c
def cOp:Code→Array Oper | .region _ o _=>o | _=>#[]
theorem rr_ptr {ty:Nat→K} {sz:Nat→Nat} {M M':Mem} {μ μ':List Loc} {b:Nat} {κ:K} {x:Value} (h:RR ty sz M μ (.ptr b [] κ) x) (hμ:∀i,i<μ.length→μ'[i]? = μ[i]?):RR ty sz M' μ' (.ptr b [] κ) x:=by
 replace h:=h.resolve_left (by simp)
 obtain⟨κ',h⟩:=h
 refine .inr ⟨κ',?_⟩
 simp only[RV] at h ⊢
 obtain⟨h1,l,h2,h3⟩:=h
 exact⟨h1,l,by rw[hμ b (List.getElem?_eq_some_iff.1 h2).1];exact h2,h3⟩
def clo (E:Env) (n g:Nat) (rOps:List Oper) (C:Code) (caps:List V) (nt:Nat) (vrec:V) (H:List AObj) (kk:List AObj→Option D):Option D:=match rOps with
 | o0::os=>evOps E (call E n) (E.hint g 0) ((o0::os).map (·.dst)) os (setD (caps++List.replicate (nt-caps.length) .undef) o0.dst vrec) H fun r H'=>ev true E (call E n) g H.length C r H' fun e _ H2=>match e with
  | .normal=>kk H2
  | .ret=>kk H2
  | .exit _=>none
 | []=>none
section
variable {P:Program} {X:List Nat} {B0:Nat} {w0:World} {E:Env} {I:World→Prop} {gl:Nat}
variable (EO:EnvOk P E I gl) (hI:I w0) (hgl:gl≤B0) (hpan:E.pan=none)
inductive Recov:FrameMode→Value→FrameMode→Prop where
 | ret:Recov .returning .nilIface .returning
 | pan (x:Value):Recov (.panicking [{ v:=x,recovered:=false }]) x (.panicking [{ v:=x,recovered:=true }])
theorem Recov.settles {u u':FrameMode} {x:Value} (h:Recov u x u'):settle u' = .returning:=by
 cases h<;>simp[settle]
include EO hI hgl hpan
theorem clo_ok {n g:Nat} {gn:Func} {rOps:Array Oper} {C:Code} {e1:Nat} (hf:P.funcs[g]? = some gn) (hfE:E.fn g=some gn) (hbody:gn.body=some (.seq (.region e1 rOps false) C)) (hres:gn.results = #[])
  {o0:Oper} {os:List Oper} (hops:rOps.toList=o0::os) (ho:∃ats tys,o0.op = .call { callee:=.builtin .recover,args:=#[],argTypes:=ats }∧o0.guard=none∧tys=ats) (hplain:os.all (fun o=>plainOp o.op)=true)
  (he1:E.hint g e1=E.hint g 0) {caps:List V} {ys:List Value} {vrec:V} {xrec:Value} {H:List AObj} {μ:List Loc} {w:World} {u u':FrameMode} {r:D} {kk:List AObj→Option D} {R:Ending→FrameMode→World→Prop}
  (hu:Recov u xrec u') (he:clo E n g rOps.toList C caps gn.ntmps vrec H kk=some r) (h:HOk E.ty P.cellsOf E.rnd X B0 w0 μ H w) (hv:RR E.ty P.cellsOf (M_ X μ H w) μ vrec xrec) (hc:RVt E.ty P.cellsOf (M_ X μ H w) μ caps ys)
  (hk:∀H' μ' w',kk H'=some r→HOk E.ty P.cellsOf E.rnd X B0 w0 μ' H' w'→Fut X B0 μ.length μ H w μ' H' w'→R (.returned (.tuple #[])) u' w') :
  CallsDIn Fence.wide 0 P g ys.toArray u w R:=by
 refine callsDIn_of_wpSIn hf hbody trivial (fun c₀ cs hcu=>?_)
 refine wpSIn_seq (wpSIn_region ?_)
 have hsz:rOps.size=os.length+1:=by rw[←Array.length_toList,hops];rfl
 have hrange:List.range rOps.size=0::List.range' 1 os.length:=by rw[hsz,List.range_eq_range',List.range'_succ]
 have h0:rOps[0]? = some o0:=by rw[←Array.getElem?_toList,hops];rfl
 rw[hrange]
 simp only[wpOpsSIn,h0]
 refine⟨fun _ _=>trivial,?_⟩
 obtain⟨ats,_,hop,hg,_⟩:=ho
 rw[if_pos (by simp[Region.wanted,hg])]
 have hcl:caps.length=ys.length:=by
  clear he
  induction caps generalizing ys with
  | nil=>simp only[RVt] at hc;simp[hc]
  | cons c caps ih=>simp only[RVt] at hc;obtain⟨x,rest,rfl,_,h2⟩:=hc;simp[ih h2]
 obtain⟨a0,ha0⟩:∃a0:Act,a0 = { tmps:=ys.toArray++Array.replicate (gn.ntmps-ys.toArray.size) Go.undef,defers:=[] }:=⟨_,rfl⟩
 have hregs:Regs P E.ty (M_ X μ H w) μ (caps++List.replicate (gn.ntmps-caps.length) .undef) a0.tmps:=by
  rw[ha0]
  refine⟨by simp[hcl],fun i=>?_⟩
  by_cases hi:i<caps.length
  ·obtain⟨x,hx,hrr⟩:=RVt.at hc (List.getElem?_eq_getElem hi)
   have e1:(caps++List.replicate (gn.ntmps-caps.length) V.undef).getD i .undef=caps[i]:=by
    rw[List.getD_eq_getElem?_getD,List.getElem?_append_left hi,List.getElem?_eq_getElem hi];rfl
   have e2:(ys.toArray++Array.replicate (gn.ntmps-ys.toArray.size) Go.undef).getD i Go.undef=x:=by
    rw[Array.getD_eq_getD_getElem?,Array.getElem?_append_left (by simp;omega)]
    simp[hx]
   rw[e1,e2];exact hrr
  ·left
   rw[List.getD_eq_getElem?_getD,List.getElem?_append_right (by omega),List.getElem?_replicate]
   split<;>rfl
 rw[←ha0]
 have hrun:(execOp a0.eval o0).run P w = .ok .recover w:=by
  simp[execOp,hop,resolve,run_bind,run_pure,invoke]
  rfl
 rw[hrun]
 simp only[]
 unfold clo at he
 rw[hops] at he
 simp only at he
 obtain⟨cs',hcs',hrec⟩:∃cs',cs' = { c₀ with mode:=u' }::cs∧(match recoverD (c₀::cs) with
   | some (v,cs2)=>v=xrec∧cs2=cs'
   | none=>xrec = .nilIface∧cs'=c₀::cs):=by
  cases hu with
  | ret=>exact⟨_,rfl,by
   have e:({ c₀ with mode:=.returning }:Frame)=c₀:=by rw[←hcu]
   simp[recoverD,hcu,e]⟩
  | pan x=>exact⟨_,rfl,by simp[recoverD,hcu]⟩
 have hgoal:wpOpsSIn Fence.wide 0 P rOps (Exit.thenS (C.wpSIn Fence.wide 0 P (bodyPostS P gn c₀ cs R)) (bodyPostS P gn c₀ cs R)) (List.range' 1 os.length) (a0.put o0.dst xrec) cs' w:=by
  refine wpOpsS_of rfl _ _ _ (fun i o hi hio=>?_) ?_
  ·rw[List.mem_range'_1] at hi
   rw[←Array.getElem?_toList,hops] at hio
   obtain⟨j,rfl⟩:∃j,i=j+1:=⟨i-1,by omega⟩
   simp only[List.getElem?_cons_succ] at hio
   exact List.all_eq_true.1 hplain o (List.mem_of_getElem? hio)
  ·have IN:=call_ok (X:=X) (B0:=B0) (w0:=w0) EO hI hgl (noPan_ok hpan) n
   have hregs':=hregs.set (dst:=o0.dst) hv
   have hz:(noPan:Pz D).at μ.length μ:=⟨Nat.zero_le _,fun i hi=>absurd hi (Nat.not_lt_zero i)⟩
   have hd0:Defs ⟨w.heap.size,[],true⟩ (a0.put o0.dst xrec) w:=Defs.nil (by rw[put_defers,ha0])
   refine evOps_ok EO hI hgl IN (ro:=none) (n0:=⟨w.heap.size,[],true⟩) (hint:=E.hint g 0) (base:=μ.length) (μs:=μ) (Hs:=H) (ws:=w) hz (fun ch a' w' hc _=>hc.elim) (fun r1 H1 μ1 a1 w1 hk1 h1 hr1 hd1 F1=>?_) os [o0] _ _ _ _ _ hops (by rw[hops];exact he) h hregs' hd0 (Fut.refl h)
   refine wpSIn_of_wpIn rfl ?_
   refine ev_ok EO hI hgl IN (rd:=true) (ro:=none) (n0:=⟨w.heap.size,[],true⟩) (base:=H.length) (by simp) C (fun x hx=>found_body hfE hbody (EO.rounds g gn hfE) x (List.mem_append_right _ hx)) r1 H1 _ μ1 a1 w1 _ (fun ch a' w' hc _=>hc.elim) (by rw[←h.len];exact hz.next F1 (Nat.le_refl _)) hk1 h1 hr1 hd1 (by rw[←h.len];exact F1.len) (fun e r2 H2 μ2 a2 w2 hk2 h2 hr2 hd2 F2=>?_)
   have hfin:kk H2=some r→bodyPostS P gn c₀ cs R .normal a2 cs' w2:=by
    intro hk2
    refine⟨hd2.none rfl,u',hcs',.tuple #[],?_,hk H2 μ2 w2 hk2 h2 ?_⟩
    ·simp[results,hres,run_pure]
    ·rw[←h.len] at F2
     exact Fut.trans (Nat.le_refl _) F1 F2
   cases e with
   | normal=>exact hfin hk2
   | ret=>exact hfin hk2
   | exit id=>simp at hk2
 cases hrd:recoverD (c₀::cs) with
 | none=>rw[hrd] at hrec;obtain⟨h1,h2⟩:=hrec;rw[h1,h2] at hgoal;exact hgoal
 | some p=>
  obtain⟨v,cs2⟩:=p
  rw[hrd] at hrec
  obtain⟨rfl,rfl⟩:=hrec
  exact hgoal
end
def ptrsEq:List V→List V→Bool
 | [],[]=>true
 | .undef::a,.undef::b=>ptrsEq a b
 | .ptr x [] κ::a,.ptr y [] κ'::b=>Nat.beq x y&&decide (κ=κ')&&ptrsEq a b
 | _,_=>false
theorem ptrsEq_ok:∀(a b:List V),ptrsEq a b=true→a=b:=by
 intro a
 induction a with
 | nil=>intro b h;cases b with | nil=>rfl | cons _ _=>simp[ptrsEq] at h
 | cons x a ih=>
  intro b h
  unfold ptrsEq at h
  split at h
  ·rename_i h1;cases h1
  ·rename_i a2 b2 h1
   obtain⟨rfl,rfl⟩:=List.cons.inj h1
   rw[ih _ h]
  ·rename_i x1 k1 a2 y1 k2 b2 h1
   obtain⟨rfl,rfl⟩:=List.cons.inj h1
   simp only[Bool.and_eq_true,decide_eq_true_eq] at h
   obtain⟨⟨h2,rfl⟩,h3⟩:=h
   rw[Nat.eq_of_beq_eq_true h2,ih _ h3]
  ·simp at h
theorem ptrs_shape:∀(a b:List V) (i:Nat),ptrsEq a b=true→a.getD i .undef = .undef∨∃c κ,a.getD i .undef = .ptr c [] κ:=by
 intro a
 induction a with
 | nil=>intro b i _;exact .inl (by simp)
 | cons x a ih=>
  intro b i h
  unfold ptrsEq at h
  split at h
  ·rename_i h1;cases h1
  ·rename_i a2 b2 h1
   obtain⟨rfl,rfl⟩:=List.cons.inj h1
   cases i with
   | zero=>exact .inl rfl
   | succ i=>simpa using ih b2 i h
  ·rename_i x1 k1 a2 y1 k2 b2 h1
   obtain⟨rfl,rfl⟩:=List.cons.inj h1
   simp only[Bool.and_eq_true,decide_eq_true_eq] at h
   cases i with
   | zero=>exact .inr ⟨_,_,rfl⟩
   | succ i=>simpa using ih b2 i h.2
  ·simp at h
theorem rvt_ptrs {ty:Nat→K} {sz:Nat→Nat} {M M':Mem} {μ μ':List Loc} (hμ:∀i,i<μ.length→μ'[i]? = μ[i]?):∀(a:List V) (xs:List Value),(∀i,a.getD i .undef = .undef∨∃c κ,a.getD i .undef = .ptr c [] κ)→RVt ty sz M μ a xs→RVt ty sz M' μ' a xs
 | [],xs,_,h=>by simpa only[RVt] using h
 | u::a,xs,hp,h=>by
  simp only[RVt] at h ⊢
  obtain⟨x,rest,rfl,h1,h2⟩:=h
  refine⟨x,rest,rfl,?_,rvt_ptrs hμ a rest (fun i=>by simpa using hp (i+1)) h2⟩
  have:=hp 0
  simp only[List.getD_cons_zero] at this
  rcases this with rfl | ⟨c,κ,rfl⟩
  ·exact .inl rfl
  ·exact rr_ptr h1 hμ
structure Dfr where
 n:Nat
 f:Nat
 g:Nat
 nt:Nat
 rOps:List Oper
 C:Code
 caps:List V
 rP:List V
 live:List Nat
 slot:Nat
 rs:List ResultVar
 ts:List Nat
def Dfr.fin (Y:Dfr) (E:Env) (r:List V) (v:V) (H:List AObj):Option D:=
 clo E Y.n Y.g Y.rOps Y.C Y.caps Y.nt v H fun H2=>match resVals E r H2 Y.rs with
  | some vs=>finish E.ty Y.ts (oneOf vs) H2
  | none=>none
def panE (E:Env) (Y:Dfr):Env:={ E with pan:=some (Y.fin E Y.rP) }
def getM (E:Env) (Y:Dfr) (inl1:Inl D) (d1 d2:Nat) (A B:Code) (mk:Oper) (pre:List Oper) (co:Oper) (post:List Oper) (regs0:List V):Option D:=
 ev true E (call E Y.n) Y.f 0 A regs0 [] fun e r1 H1=>match e with
 | .normal=>evOps E (call E Y.n) (E.hint Y.f d1) [mk.dst,none] [mk] r1 H1 fun r2 H2=>match vFunc (r2.getD Y.slot .undef) with
  | some (g,[],caps)=>bif Nat.beq g Y.g&&ptrsEq caps Y.caps then
    evOps E (call E Y.n) (E.hint Y.f d2) ((pre++co::post).map (·.dst)) pre r2 H2 fun r3 H3=>bif ptrsEq (keep Y.live 0 r3) Y.rP then
     match inlines (panE E Y) r3 co with
     | some (t,args)=>inl1 t args H3 fun v H4=>evOps E (call E Y.n) (E.hint Y.f d2) ((pre++co::post).map (·.dst)) post (setD r3 co.dst v) H4 fun r5 H5=>ev true E (call E Y.n) Y.f H5.length B r5 H5 fun e r6 H6=>match e with
      | .exit _=>none
      | _=>Y.fin E r6 (.d (.iface false) .nilIface) H6
     | none=>none
    else none
   else none
  | _=>none
 | _=>none
section
variable {P:Program} {E:Env} {I:World→Prop} {gl:Nat}
theorem panOk (EO:EnvOk P E I gl) (Y:Dfr):EnvOk P (panE E Y) I gl:=⟨EO.ty,EO.fn,EO.con,EO.keep,EO.mixed,EO.ext,EO.rounds,EO.prim,EO.meth⟩
theorem contract_defer (EO:EnvOk P E I gl) (hpan:E.pan=none) (hgl:∀w,I w→gl≤w.heap.size) {Y:Dfr} {fn gn:Func} {T:Tbl} (hT:AllOk (panE E Y) T) {d1 d2:Nat} {A B:Code} {dOps cOps:Array Oper} {mk df co:Oper} {pre post:List Oper}
  (hf:P.funcs[Y.f]? = some fn) (hfE:E.fn Y.f=some fn) (hbody:fn.body=some (.seq A (.seq (.region d1 dOps false) (.seq (.region d2 cOps false) B))))
  (hd:dOps.toList=[mk,df]) (hdf:df.guard=none∧df.dst=none∧df.op = .defer { callee:=.value (.tmp Y.slot),args:=#[],argTypes:=#[] })
  (hco:cOps.toList=pre++co::post) (hcg:co.guard=none)
  (hg:P.funcs[Y.g]? = some gn) (hgE:E.fn Y.g=some gn) {e1:Nat} {rOps:Array Oper} (hgb:gn.body=some (.seq (.region e1 rOps false) Y.C)) (hgr:rOps.toList=Y.rOps) (hgres:gn.results = #[]) (hnt:gn.ntmps=Y.nt)
  {o0:Oper} {os:List Oper} (hops:Y.rOps=o0::os) (ho:∃ats tys,o0.op = .call { callee:=.builtin .recover,args:=#[],argTypes:=ats }∧o0.guard=none∧tys=ats) (hplain:os.all (fun o=>plainOp o.op)=true) (he1:E.hint Y.g e1=E.hint Y.g 0)
  (hrs:Y.rs=fn.results.toList) (hts:Y.ts=fn.resultTypes.toList) {run:List D→Option D}
  (hrun:∀ds r,D.hass E.ty ds (fn.params.toList.map E.ty)→run ds=some r→getM E Y (callS (panE E Y) T Y.n) d1 d2 A B mk pre co post (List.zipWith V.d (fn.params.toList.map E.ty) ds++List.replicate (fn.ntmps-(List.zipWith V.d (fn.params.toList.map E.ty) ds).length) .undef)=some r) :
  Contract P E.ty I Y.f fn { run:=run }:=by
 intro X w ds xs r hIw hX hEa hr
 have hH:=each_has _ _ _ hEa
 have he:=hrun ds r hH hr
 have hglw:=hgl w hIw
 obtain⟨a0,ha0⟩:∃a0:Act,a0 = { tmps:=xs.toArray++Array.replicate (fn.ntmps-xs.toArray.size) Go.undef,defers:=[] }:=⟨_,rfl⟩
 obtain⟨RQ,hRQ⟩:∃RQ:Ending→World→Prop,RQ=fun e w'=>∃v,e = .returned v∧Below w.heap.size w w'∧ResRep E.ty (memOf w' X) fn.resultTypes.toList r v:=⟨_,rfl⟩
 suffices main:Calls P Y.f xs.toArray w RQ by
  refine main.mono ?_
  rw[hRQ]
  rintro e w' ⟨v,rfl,hb,hres⟩
  exact⟨v,rfl,hb,by simpa using hres⟩
 refine callsIn_wide.1 (callsIn_of_wp_defers (F:=Fence.wide) (n:=0) hf hbody trivial ?_)
 rw[←ha0]
 have hstart:=start_ok (P:=P) (ty:=E.ty) (cd:=E.rnd) hX
 have hargs:RVt E.ty P.cellsOf (M_ X [] [] w) [] (List.zipWith V.d (fn.params.toList.map E.ty) ds) xs:=by
  have:=RVt.of_each (sz:=P.cellsOf) (μ:=[]) hEa
  simpa[M_,owned] using this
 have hlen:(List.zipWith V.d (fn.params.toList.map E.ty) ds).length=xs.length:=by
  clear he hEa
  generalize List.zipWith V.d (fn.params.toList.map E.ty) ds=as1 at hargs
  clear ha0 hrun hr
  induction as1 generalizing xs with
  | nil=>simp only[RVt] at hargs;simp[hargs]
  | cons a as1 ih=>simp only[RVt] at hargs;obtain⟨x,rest,rfl,_,h2⟩:=hargs;simp[ih rest h2]
 obtain⟨z,hz0⟩:∃z,z=List.zipWith V.d (fn.params.toList.map E.ty) ds:=⟨_,rfl⟩
 rw[←hz0] at hargs hlen he
 have hregs:Regs P E.ty (M_ X [] [] w) [] (z++List.replicate (fn.ntmps-z.length) .undef) a0.tmps:=by
  rw[ha0]
  refine⟨by simp[hlen],fun i=>?_⟩
  by_cases hi:i<z.length
  ·obtain⟨x,hx,hrr⟩:=RVt.at hargs (List.getElem?_eq_getElem hi)
   have e1:(z++List.replicate (fn.ntmps-z.length) V.undef).getD i .undef=z[i]:=by
    rw[List.getD_eq_getElem?_getD,List.getElem?_append_left hi,List.getElem?_eq_getElem hi];rfl
   have e2:(xs.toArray++Array.replicate (fn.ntmps-xs.toArray.size) Go.undef).getD i Go.undef=x:=by
    rw[Array.getD_eq_getD_getElem?,Array.getElem?_append_left (by simp;omega)]
    simp[hx]
   rw[e1,e2];exact hrr
  ·left
   rw[List.getD_eq_getElem?_getD,List.getElem?_append_right (by omega),List.getElem?_replicate]
   split<;>rfl
 have IN0:=call_ok (X:=X) (B0:=w.heap.size) (w0:=w) EO hIw hglw (noPan_ok hpan) Y.n
 have hzn:∀b μ,(noPan:Pz D).at b μ:=fun b μ=>⟨Nat.zero_le _,fun i hi=>absurd hi (Nat.not_lt_zero i)⟩
 have hfb:=found_body hfE hbody (EO.rounds Y.f fn hfE)
 have leaves:∀(ys:Array Value) (d:Deferred) (u u':FrameMode) (xrec:Value) (vrec:V) (rr:List V) (tm:Array Value) (H:List AObj) (μ:List Loc) (w':World),d = { target:=.fn (.func Y.g) ys,args:=#[] }→Recov u xrec u'→Y.fin E rr vrec H=some r →
   HOk E.ty P.cellsOf E.rnd X w.heap.size w μ H w'→RR E.ty P.cellsOf (M_ X μ H w') μ vrec xrec→Regs P E.ty (M_ X μ H w') μ rr tm→RVt E.ty P.cellsOf (M_ X μ H w') μ Y.caps ys.toList→LeavesIn Fence.wide 0 P fn tm RQ [d] u w':=by
  intro ys d u u' xrec vrec rr tm H μ w' hd' hu hfin h hv hrr hc
  subst hd'
  simp only[LeavesIn]
  refine⟨by cases hu<;>simp,fun h=>by simp[Fence.wide] at h,.func Y.g,ys,Y.g,ys,rfl,?_,fun _ _=>trivial,?_⟩
  ·simp only[invoke]
   have hb':gn.body.isNone=false:=by rw[hgb];rfl
   simp only[run_bind,callFunc,program,Sem.run,hg,(EO.fn Y.g gn hgE).2,hb',Bool.false_eq_true,if_false]
   simp
  ·have:=clo_ok (u:=u) (u':=u') (xrec:=xrec) (n:=Y.n) (g:=Y.g) (caps:=Y.caps) (ys:=ys.toList) (vrec:=vrec) (H:=H) (μ:=μ) (w:=w') (r:=r) EO hIw hglw hpan hg hgE hgb hgres (by rw[hgr];exact hops) ho hplain he1 (kk:=fun H2=>match resVals E rr H2 Y.rs with
     | some vs=>finish E.ty Y.ts (oneOf vs) H2
     | none=>none) (R:=fun
      | .returned _,u',w'=>LeavesIn Fence.wide 0 P fn tm RQ [] (settle u') w'
      | .panicked chain,u',w'=>LeavesIn Fence.wide 0 P fn tm RQ [] (raised u' chain) w'
      | .outgrown,_,w'=>RQ .outgrown w') hu (by rw[hgr,hnt];exact hfin) h hv hc (fun H' μ' w'' hkk h' F'=>by
     simp only[]
     rw[hu.settles]
     simp only[LeavesIn]
     split at hkk
     ·rename_i vs hvs
      obtain⟨xs',k1,k2⟩:=resVals_ok EO.ty h' (hrr.mono F'.mem (F'.keeps (Nat.le_refl _))) _ vs hvs
      have hres:(results fn tm).run P w'' = .ok (if h:xs'.toArray.size=1 then xs'.toArray[0] else .tuple xs'.toArray) w'':=by
       simp only[results]
       rw[Array.mapM_eq_mapM_toList]
       rw[map_eq_pure_bind]
       simp only[run_bind]
       rw[hrs] at k1
       erw [k1]
       rfl
      refine⟨_,hres,?_⟩
      rw[hRQ,←hts]
      exact⟨_,rfl,h'.below,finish_ok EO.ty h' (oneOf_ok k2) hkk⟩
     ·simp at hkk)
   obtain⟨hF,hh⟩:=this
   refine⟨hF,fun c cs hc hr=>?_⟩
   obtain⟨e,u2,w2,fr,hR,rest⟩:=hh c cs hc hr
   refine⟨e,u2,w2,fr,?_,rest⟩
   cases e<;>exact hR
 unfold getM at he
 refine wpIn_seq ?_
 refine ev_ok EO hIw hglw IN0 (rd:=true) (ro:=none) (n0:=⟨w.heap.size,[],true⟩) (f:=Y.f) (base:=0) (by simp) A (fun x hx=>hfb x (List.mem_append_left _ hx)) _ [] _ [] a0 w _ (fun ch a' w' hc _=>hc.elim) (hzn _ _) he hstart hregs (Defs.nil (by rw[ha0])) (Nat.le_refl _) (fun e r1 H1 μ1 a1 w1 hk1 h1 hr1 hd1 F1=>?_)
 cases e with
 | ret=>simp at hk1
 | exit id=>simp at hk1
 | normal=>
 simp only at hk1
 refine wpIn_seq (wpIn_region ?_)
 have hsz:dOps.size=2:=by rw[←Array.length_toList,hd];rfl
 have hdsts:dOps.toList.map (·.dst)=[mk.dst,none]:=by rw[hd];simp[hdf.2.1]
 rw[←hdsts] at hk1
 have hdr:List.range dOps.size=List.range' 0 ([mk].length+[df].length):=by rw[hsz,List.range_eq_range'];rfl
 rw[hdr]
 refine evOps_pre EO hIw hglw IN0 (ro:=none) (n0:=⟨w.heap.size,[],true⟩) (ops:=dOps) (post:=[df]) (hint:=E.hint Y.f d1) (base:=0) (μs:=μ1) (Hs:=H1) (ws:=w1) (hzn _ _) (fun ch a' w' hc _=>hc.elim) (fun r2 H2 μ2 a2 w2 hk2 h2 hr2 hd2 F2=>?_) [mk] [] r1 H1 μ1 a1 w1 (by rw[hd];rfl) hk1 h1 hr1 hd1 ⟨fun _ _=>rfl,Nat.zero_le _,Mem.le_refl _,Below.refl _ _,fun _ h=>h⟩
 split at hk2
 case h_2=>simp at hk2
 rename_i g' caps hvf
 cases hcb:(Nat.beq g' Y.g&&ptrsEq caps Y.caps) with
 | false=>rw[hcb] at hk2;simp at hk2
 | true=>
 rw[hcb] at hk2
 simp only[cond_true] at hk2
 simp only[Bool.and_eq_true] at hcb
 obtain⟨hgg,hcaps⟩:=hcb
 obtain rfl:=Nat.eq_of_beq_eq_true hgg
 have hcaps':=ptrsEq_ok _ _ hcaps
 obtain⟨xs0,ys,hx,hxs0,hys⟩:=vFunc_ok (val_ok hr2 .func (.tmp Y.slot)) hvf
 have hxs0':xs0 = #[]:=by simp only[RVt] at hxs0;exact Array.toList_inj.1 hxs0
 subst hxs0'
 rw[hcaps'] at hys
 have hcsh:∀i,Y.caps.getD i .undef = .undef∨∃c κ,Y.caps.getD i .undef = .ptr c [] κ:=by
  rw[←hcaps'];exact fun i=>ptrs_shape _ _ i hcaps
 obtain⟨d,hdd⟩:∃d:Deferred,d = { target:=.fn (.func Y.g) ys,args:=#[] }:=⟨_,rfl⟩
 have h1g:dOps[1]? = some df:=by rw[←Array.getElem?_toList,hd];rfl
 rw[hsz]
 rw[show List.range' (2-[df].length) [df].length=[1] from rfl]
 simp only[wpOpsIn,h1g]
 rw[if_pos (by simp[Region.wanted,hdf.1])]
 refine⟨fun _ _=>trivial,?_⟩
 have hrun:(execOp a2.eval df).run P w2 = .ok (.defer d) w2:=by
  simp only[execOp,hdf.2.2,resolve]
  rw[show a2.eval (.tmp Y.slot)=Value.func (.func Y.g) #[] ys from hx]
  simp[Deferred.ofValue,run_bind,run_pure,hdd]
 show df.uponIn (Fr none) 0 P a2 _ _ ((df.semAt none a2.eval).run P w2)
 rw[Oper.semAt_none,hrun,Oper.uponIn_defer,hdf.2.1]
 obtain⟨a3,ha3⟩:∃a3:Act,a3=({ a2 with defers:=d::a2.defers }:Act).put none Go.undef:=⟨_,rfl⟩
 rw[←ha3]
 have ha3d:a3.defers=[d]:=by rw[ha3,put_defers];show d::a2.defers=[d];rw[hd2.none rfl]
 have ha3t:a3.tmps=a2.tmps:=by rw[ha3];rfl
 refine wpIn_seq (wpIn_region ?_)
 have hcs:cOps.size=pre.length+(post.length+1):=by rw[←Array.length_toList,hco];simp
 have hcr:List.range cOps.size=List.range' 0 (pre.length+(co::post).length):=by rw[hcs,List.range_eq_range'];rfl
 rw[hcr]
 rw[←hco] at hk2
 have hd3:Defs ⟨w.heap.size,[d],true⟩ a3 w2:=⟨hd2.1,[],by simp[ha3d],by simp,by simp,fun _=>rfl⟩
 refine evOps_pre EO hIw hglw IN0 (ro:=none) (n0:=⟨w.heap.size,[d],true⟩) (ops:=cOps) (post:=co::post) (hint:=E.hint Y.f d2) (base:=μ2.length) (μs:=μ2) (Hs:=H2) (ws:=w2) (hzn _ _) (fun ch a' w' hc _=>hc.elim) (fun r3 H3 μ3 a4 w3 hk3 h3 hr3 hd4 F3=>?_) pre [] r2 H2 μ2 a3 w2 hco hk2 h2 (by rw[ha3t];exact hr2) hd3 (Fut.refl h2)
 cases hpt:ptrsEq (keep Y.live 0 r3) Y.rP with
 | false=>rw[hpt] at hk3;simp at hk3
 | true=>
 rw[hpt] at hk3
 simp only[cond_true] at hk3
 split at hk3
 case h_2=>simp at hk3
 rename_i t args hinl
 have hk3':=callS_le hT Y.n t args H3 _ _ (fun _ _=>Le.refl _) r hk3
 have hcg2:cOps.size-(co::post).length=pre.length:=by rw[hcs];simp
 have hcget:cOps[pre.length]? = some co:=by rw[←Array.getElem?_toList,hco];simp
 rw[hcg2]
 simp only[List.length_cons,List.range'_succ,wpOpsIn,hcget]
 rw[if_pos (by simp[Region.wanted,hcg])]
 obtain⟨Z,hZdef⟩:∃Z:Pz D,Z=⟨μ3,fun r' ch w'=>∃v x H μ,Y.fin E Y.rP v H=some r'∧ch=[{ v:=x,recovered:=false }]∧HOk E.ty P.cellsOf E.rnd X w.heap.size w μ H w'∧RR E.ty P.cellsOf (M_ X μ H w') μ v x∧∀i,i<μ3.length→μ[i]? = μ3[i]?⟩:=⟨_,rfl⟩
 have hZ:PanOk P (panE E Y) X w.heap.size w Z:=by
  refine⟨fun h0=>by simp[panE] at h0,fun p hp v H r' μ w' x hpv h hv hz=>?_⟩
  simp only[panE,Option.some.injEq] at hp
  subst hp
  subst hZdef
  exact⟨v,x,H,μ,hpv,rfl,h,hv,hz.2⟩
 have INp:=call_ok (X:=X) (B0:=w.heap.size) (w0:=w) (panOk EO Y) hIw hglw hZ Y.n
 have hzz:Z.at μ3.length μ3:=by subst hZdef;exact⟨Nat.le_refl _,fun _ _=>rfl⟩
 have hd4n:=hd4.none rfl
 refine inlines_ok (panOk EO Y) INp (ro:=none) h3 hr3 hinl hk3' hzz (fun ch w' hpq=>?_) (fun v H4 μ4 w4 x hk4 hv4 h4 F4=>?_)
 ·
  subst hZdef
  obtain⟨v,x,H,μ,k1,rfl,k3,k4,k5⟩:=hpq
  show LeavesIn Fence.wide 0 P fn a4.tmps _ a4.defers (.panicking [{ v:=x,recovered:=false }]) w'
  rw[hd4n]
  have hrP:=ptrsEq_ok _ _ hpt
  have hkeep:=keep_ok Y.live hr3
  rw[hrP] at hkeep
  refine leaves ys d _ _ x v Y.rP a4.tmps H μ w' hdd (.pan x) k1 k3 k4 ⟨hkeep.len,fun i=>?_⟩ ?_
  ·have:=ptrs_shape _ _ i hpt
   rw[hrP] at this
   rcases this with h0 | ⟨c,κ,h0⟩
   ·exact .inl h0
   ·have h5:=hkeep.get i
    rw[h0] at h5 ⊢
    exact rr_ptr h5 k5
  ·refine rvt_ptrs (fun i hi=>?_) _ _ hcsh hys
   rw[k5 i (by have:=F3.len;omega),F3.loc i hi]
 ·
  have hrest:cOps.toList=(pre++[co])++post:=by rw[hco];simp
  have hl1:(pre++[co]).length=pre.length+1:=by simp
  have:=evOps_ok EO hIw hglw IN0 (ro:=none) (n0:=⟨w.heap.size,[d],true⟩) (ops:=cOps) (hint:=E.hint Y.f d2) (base:=μ2.length) (μs:=μ2) (Hs:=H2) (ws:=w2) (Q:=Exit.then (B.wpIn (Fr none) 0 P (bodyPostDIn Fence.wide 0 P fn RQ)) (bodyPostDIn Fence.wide 0 P fn RQ)) (hzn _ _) (fun ch a' w' hc _=>hc.elim) (fun r5 H5 μ5 a5 w5 hk5 h5 hr5 hd5 F5=>?_) post (pre++[co]) _ H4 μ4 (a4.put co.dst x) w4 hrest hk4 h4 ((hr3.mono F4.mem (F4.keeps (Nat.le_refl _))).set hv4) (hd4.next F4 (put_defers _ _ _)) (F3.trans F3.len F4)
  ·rw[hl1] at this
   exact this
  ·refine ev_ok EO hIw hglw IN0 (rd:=true) (ro:=none) (n0:=⟨w.heap.size,[d],true⟩) (f:=Y.f) (base:=H5.length) (by simp) B (fun x hx=>hfb x (List.mem_append_right _ (List.mem_append_right _ (List.mem_append_right _ hx)))) r5 H5 _ μ5 a5 w5 _ (fun ch a' w' hc _=>hc.elim) (hzn _ _) hk5 h5 hr5 hd5 (by rw[←h5.len];exact Nat.le_refl _) (fun e r6 H6 μ6 a6 w6 hk6 h6 hr6 hd6 F6=>?_)
   have hfin:Y.fin E r6 (.d (.iface false) .nilIface) H6=some r→LeavesIn Fence.wide 0 P fn a6.tmps RQ a6.defers .returning w6:=by
    intro hk6
    rw[hd6.none rfl]
    refine leaves ys d _ _ .nilIface _ r6 a6.tmps H6 μ6 w6 hdd .ret hk6 h6 (.inr ⟨.iface false,by simp[RV,Rep]⟩) hr6 (rvt_ptrs (fun i hi=>?_) _ _ hcsh hys)
    have hl5:=F5.len
    rw[F6.loc i (by rw[←h5.len];omega),F5.loc i hi]
   cases e with
   | normal=>exact hfin hk6
   | ret=>exact hfin hk6
   | exit id=>simp at hk6
end
end Go.AM
namespace Go.Proofs
open Go Go.Shelf Go.RowKit
variable {P:Program} {ρ:Ren}
set_option maxHeartbeats 1000000 in
set_option maxRecDepth 100000 in
theorem copyCheck_fresh (L:Lays.n240 P ρ) (X:Builder.X72 P ρ) (b T:Nat) (w:World) (h0:w.cell? ⟨b,0,none⟩=some (.pointer none)) (hsh:w.shape? b=some (T,2)) (hl:liesAt P P.depth T (2 / P.cellsOf T) 0 (ρ.t 72) 1=true) (hfz:w.frozen? ⟨b,0,none⟩=false) :
  Calls P (ρ.f 240) #[.pointer (some ⟨b,0,none⟩)] w fun e w'=>e = .returned (.tuple #[])∧w'=w.setCell ⟨b,0,none⟩ (.pointer (some ⟨b,0,none⟩)):=by
 obtain⟨j,hj,hjs⟩:=Option.map_eq_some_iff.1 X.sizeBuilder
 have mixed:=L.mixed
 have t72:=L.t72;have a72:=L.a72;have z72:=L.z72;have v72:=L.v72;have u72:=run_underlying L.t72
 have t70:=L.t70;have a70:=L.a70;have z70:=L.z70;have v70:=L.v70;have u70:=run_underlying L.t70
 have t9:=L.t9;have a9:=L.a9;have z9:=L.z9;have v9:=L.v9;have u9:=run_underlying L.t9
 have t4:=L.t4;have a4:=L.a4;have z4:=L.z4;have v4:=L.v4;have u4:=run_underlying L.t4
 have t164:=L.t164;have a164:=L.a164;have z164:=L.z164;have v164:=L.v164;have u164:=run_underlying L.t164
 go_enter L.f240,Body.n240_ntmps ρ
 go_wp2
 rw[Lib.run_to_unsafe w ⟨b,0,none⟩ L.t70 L.t164 hj (by rw[hjs];decide) hsh (Nat.zero_lt_succ 1)]
 simp only[Result.andThen]
 rw[Oper.upon_value]
 go_wp2
 rw[run_callFunc_extern L.f276 (by kernel_rfl) (by kernel_rfl) (by kernel_rfl) (e:=Extern.AbiNoEscape.same) (by kernel_rfl)]
 rw[Lib.run_noEscape]
 simp only[Result.andThen]
 rw[Oper.upon_value]
 go_wp2
 rw[Lib.run_from_unsafe w ⟨b,0,none⟩ L.t164 L.t70 hj hsh hl]
 simp only[Result.andThen]
 rw[Oper.upon_value]
 go_wp2
 go_end0
 exact⟨rfl,rfl⟩
theorem run_loadInts (w:World):∀(l:List Int) (g off:Nat) (acc:ByteArray),(∀j x,l[j]? = some x→w.cell? ⟨g,off+j,none⟩=some (.int .u8 x)) →
  (loadBytes ⟨g,off,none⟩ acc l.length).run P w = .ok ⟨acc.data++(l.map fun z=>z.toNat.toUInt8).toArray⟩ w
 | [],g,off,acc,_=>by simp[loadBytes]
 | x::l,g,off,acc,h=>by
  have h0:w.cell? ⟨g,off,none⟩=some (.int .u8 x):=by
   have:=h 0 x rfl
   simpa using this
  have ih:=run_loadInts w l g (off+1) (acc.push x.toNat.toUInt8) (fun j y hy=>by
   have:=h (j+1) y (by simpa using hy)
   rw[show off+1+j=off+(j+1) by omega];exact this)
  have ha:(⟨g,off,none⟩:Addr).add 1=⟨g,off+1,none⟩:=by simp[Addr.add]
  simp only[List.length_cons,loadBytes,Sem.run_bind,run_load,h0,Result.andThen,ha]
  rw[ih]
  congr 1
  apply ByteArray.ext
  simp[ByteArray.push]
set_option maxHeartbeats 2000000 in
set_option maxRecDepth 100000 in
theorem bld_String (L:Lays.n169 P ρ) (X:Builder.Extra P ρ) (b g off cap T et cells:Nat) (p:Value) (l:List Int) (w:World) (hbk:w.heap[b]? = some (.cells #[p,.slice (some ⟨g,off,none⟩) l.length cap] T (0,0))) (hcap:cap≠0) (h0:l≠[])
  (hsh:w.shape? g=some (et,cells)) (hlies:liesAt P P.depth et (cells / P.cellsOf et) off (ρ.t 5) l.length=true) (h63:l.length≤9223372036854775807) (hcell:∀j x,l[j]? = some x→w.cell? ⟨g,off+j,none⟩=some (.int .u8 x)) :
  Calls P (ρ.f 169) #[.pointer (some ⟨b,0,none⟩)] w fun e w'=>e = .returned (.string ⟨(l.map fun z=>z.toNat.toUInt8).toArray⟩)∧w'=w.drew.freeze ⟨g,off,none⟩ l.length:=by
 have c1:w.drew.cell? ⟨b,1,none⟩=some (.slice (some ⟨g,off,none⟩) l.length cap):=by
  have:w.drew.heap[b]? = some (.cells #[p,.slice (some ⟨g,off,none⟩) l.length cap] T (0,0)):=hbk
  rw[Lib.cell_of_heap this];rfl
 have hSD:(Builtin.unsafeSliceData_ #[(ρ.t 37)] (ρ.t 127) #[.slice (some ⟨g,off,none⟩) l.length cap]).run P w.drew = .ok (.pointer (some ⟨g,off,none⟩)) w.drew:=
  Lib.run_unsafeSliceData_row _ _ _ _ _ _ hcap
 have hUS:(Builtin.unsafeString_ #[(ρ.t 127),(ρ.t 3)] (ρ.t 9) #[.pointer (some ⟨g,off,none⟩),.int .i64 l.length]).run P w.drew = .ok (.string ⟨(l.map fun z=>z.toNat.toUInt8).toArray⟩) (w.drew.freeze ⟨g,off,none⟩ l.length):=by
  have hl:l.length≠0:=by simpa using h0
  have hlb:=run_loadInts (P:=P) w.drew l g off .empty hcell
  have h63':¬(9223372036854775807:Int)<(l.length:Int):=by omega
  have hdef:Builtin.unsafeString_ #[(ρ.t 127),(ρ.t 3)] (ρ.t 9) #[.pointer (some ⟨g,off,none⟩),.int .i64 l.length] =
    (do
     let n ←asInt (.int .i64 l.length)
     if n<0 then runtimePanic (.error "unsafe.String: len out of range")
     if n>IntKind.i64.max then unsupported (.unsafePointer "String: a length above the largest int")
     if n=0 then pure (.string .empty)
     else if ←variablesAt ⟨g,off,none⟩ (←elemOf (ρ.t 127)) n.toNat then do
      let s ←loadBytes ⟨g,off,none⟩ .empty n.toNat
      freeze ⟨g,off,none⟩ n.toNat
      pure (.string s)
     else unsupported (.unsafePointer "String: not so many bytes at ptr")):=rfl
  rw[hdef]
  have hmax:IntKind.i64.max=9223372036854775807:=rfl
  have hneg:¬(l.length:Int)<0:=by omega
  have hsh':w.drew.shape? g=some (et,cells):=hsh
  simp[asInt,asIntOf,hmax,h63',hneg,hl,variablesAt,hsh',elemOf,run_underlying L.t127,hlies,hlb]
 have mixed:=L.mixed
 have t72:=L.t72;have a72:=L.a72;have z72:=L.z72;have v72:=L.v72;have u72:=run_underlying L.t72
 have t70:=L.t70;have a70:=L.a70;have z70:=L.z70;have v70:=L.v70;have u70:=run_underlying L.t70
 have t37:=L.t37;have a37:=L.a37;have z37:=L.z37;have v37:=L.v37;have u37:=run_underlying L.t37
 have t127:=L.t127;have a127:=L.a127;have z127:=L.z127;have v127:=L.v127;have u127:=run_underlying L.t127
 have t3:=L.t3;have a3:=L.a3;have z3:=L.z3;have v3:=L.v3;have u3:=run_underlying L.t3
 have t9:=L.t9;have a9:=L.a9;have z9:=L.z9;have v9:=L.v9;have u9:=run_underlying L.t9
 have t5:=X.t5;have a5:=X.a5;have z5:=X.z5;have v5:=X.v5;have u5:=run_underlying X.t5
 go_enter L.f169,Body.n169_ntmps ρ
 go_wp2
 go_region_o
 all_goals (go_wp2;go_ret;exact⟨rfl,rfl⟩)
set_option maxHeartbeats 2000000 in
set_option maxRecDepth 100000 in
theorem bld_String_nil (L:Lays.n169 P ρ) (X:Builder.Extra P ρ) (B b T:Nat) (p:Value) (w:World) (hbk:w.heap[b]? = some (.cells #[p,.slice none 0 0] T (0,0))) :
  Calls P (ρ.f 169) #[.pointer (some ⟨b,0,none⟩)] w fun e w'=>e = .returned (.string ⟨#[]⟩)∧Below B w w':=by
 have hUS:=Any.unsafeString_none L X
 have c1:w.drew.cell? ⟨b,1,none⟩=some (.slice none 0 0):=by
  have:w.drew.heap[b]? = some (.cells #[p,.slice none 0 0] T (0,0)):=hbk
  rw[Lib.cell_of_heap this];rfl
 have hSD:(Builtin.unsafeSliceData_ #[(ρ.t 37)] (ρ.t 127) #[.slice none 0 0]).run P w.drew = .ok (.pointer none) w.drew:=rfl
 have mixed:=L.mixed
 have t72:=L.t72;have a72:=L.a72;have z72:=L.z72;have v72:=L.v72;have u72:=run_underlying L.t72
 have t70:=L.t70;have a70:=L.a70;have z70:=L.z70;have v70:=L.v70;have u70:=run_underlying L.t70
 have t37:=L.t37;have a37:=L.a37;have z37:=L.z37;have v37:=L.v37;have u37:=run_underlying L.t37
 have t127:=L.t127;have a127:=L.a127;have z127:=L.z127;have v127:=L.v127;have u127:=run_underlying L.t127
 have t3:=L.t3;have a3:=L.a3;have z3:=L.z3;have v3:=L.v3;have u3:=run_underlying L.t3
 have t9:=L.t9;have a9:=L.a9;have z9:=L.z9;have v9:=L.v9;have u9:=run_underlying L.t9
 have t5:=X.t5;have a5:=X.a5;have z5:=X.z5;have v5:=X.v5;have u5:=run_underlying X.t5
 go_enter L.f169,Body.n169_ntmps ρ
 go_wp2
 go_region_o
 all_goals (go_wp2;go_ret;exact⟨rfl,Below.drew (Below.refl B w)⟩)
end Go.Proofs
namespace Go.AM
open Go Go.RowKit Go.Proofs Go.Sort
section
variable {P:Program} {ρ:Go.Shelf.Ren} {ty:Nat→K} {cd:Cd} {I:World→Prop} {gl:Nat}
def sortD (ds:List D):List D:=((ds.map D.i).mergeSort fun x y=>decide (x≤y)).map (D.int .i64)
def sortX (e:Nat):Ext:=fun args H=>match args with
 | [.sref b off len]=>match H[b]? with
  | some (.row e1 true nn ds)=>some (decide (e1=e)&&decide (len≤maxLen),.tup [],H.set b (.row e1 true nn (ds.take off++sortD ((ds.drop off).take len)++ds.drop (off+len))))
  | _=>none
 | [.d (.slice _) (.slice _ [])]=>some (true,.tup [],H)
 | _=>none
theorem reps_ints {M:Mem} {k:IntKind} {e:Nat} (he:ty e = .int k):∀(ds:List D) (cs:List Value),Reps ty M ds (List.replicate ds.length (ty e)) cs→ds=(ds.map D.i).map (D.int k)∧cs=(ds.map D.i).map (Value.int k)
 | [],cs,h=>by simp only[List.length_nil,List.replicate_zero,Reps] at h;simp[h.2]
 | d::ds,cs,h=>by
  simp only[List.length_cons,List.replicate_succ,Reps] at h
  obtain⟨κ,κs',x,rest,e1,rfl,hx,h⟩:=h
  simp only[List.cons.injEq] at e1
  obtain⟨rfl,rfl⟩:=e1
  rw[he] at hx
  obtain⟨h1,h2⟩:=reps_ints he ds rest h
  have hv:=rep_int hx
  subst hv
  cases d with
  | int k' n=>
   simp only[Rep,K.int.injEq,Value.int.injEq] at hx
   obtain⟨rfl,_⟩:=hx
   refine⟨by simp only[List.map_cons,D.i];rw[←h1],?_⟩
   simp only[List.map_cons,D.i,Value.cells]
   rw[←h2];rfl
  | _=>simp[Rep,K.isAgg] at hx
theorem HOk.killW {sz:Nat→Nat} {X:List Nat} {B0:Nat} {w0 w:World} {μ:List Loc} {H:List AObj} (h:HOk ty sz cd X B0 w0 μ H w) {i:Nat} {l:Loc} {o:AObj} {obj:Obj} (hμ:μ[i]? = some l) (hH:H[i]? = some o) (ho:ownB l o=some l.blk) :
  HOk ty sz cd X B0 w0 μ (H.set i .dead) (putBlk w l.blk obj)∧Fut X B0 μ.length μ H w μ (H.set i .dead) (putBlk w l.blk obj):=by
 have hO:Own μ H i l.blk:=⟨l,o,hμ,hH,ho⟩
 have hlow:=h.low i l.blk ⟨l,o,hμ,hH,(own_uses ho).1⟩
 have hdead:∀b,ownB l .dead=some b→ownB l o=some b:=by simp[ownB]
 have hdead':∀b,usesB l .dead=some b→usesB l o=some b:=by simp[usesB]
 have hle:(memOf w (X++owned μ H)).le (memOf (putBlk w l.blk obj) (X++owned μ (H.set i .dead))):=by
  refine memOf_leX (fun b hb hlt=>?_) (fun b hb=>.inl ?_)
  ·rw[putBlk_heap,if_neg]
   rintro⟨rfl,_⟩
   exact hb (mem_owned.2 ⟨i,hO⟩)
  ·obtain⟨j,hj⟩:=mem_owned.1 hb
   exact mem_owned.2 ⟨j,own_set_sub hμ hH hdead j b hj⟩
 refine⟨⟨by simpa using h.len,?_,fun a c b h1 h2=>h.inj a c b (own_set_sub hμ hH hdead _ _ h1) (uses_set_sub hμ hH hdead' _ _ h2),fun a b h1=>h.low a b (uses_set_sub hμ hH hdead' _ _ h1),h.resv,h.below.trans (below_put hlow),by rw[putBlk_size];exact h.size⟩,
  ⟨fun _ _=>rfl,Nat.le_refl _,hle,below_put hlow,fun b hb=>by
   rw[putBlk_heap,if_neg]
   ·exact hb
   rintro⟨rfl,_⟩
   obtain⟨l0,o0,c1,c2,c3⟩:=hO
   exact ObjOk.notDef (h.obj i l0 o0 c1 c2) (own_uses c3).1 hb⟩⟩
 intro j l1 o1 h1 h2
 by_cases hj:j=i
 ·subst hj
  rw[List.getElem?_set_self (h.lt hμ)] at h2
  simp only[Option.some.injEq] at h2
  subst h2;trivial
 ·rw[List.getElem?_set_ne (fun h=>hj h.symm)] at h2
  refine ObjOk.mono hle (fun _ _ h=>h) (fun b hb=>?_) (h.obj j l1 o1 h1 h2)
  rw[putBlk_heap,if_neg]
  rintro⟨rfl,_⟩
  exact hj (h.inj i j _ hO ⟨l1,o1,h1,h2,hb⟩).symm
structure BldTy (P:Program) (ty:Nat→K) (ρ:Go.Shelf.Ren) (κ:K) (tp e:Nat):Prop where
 kids:κ.kids ty=[.ptr tp,.slice e]
 agg:κ.isAgg=true
 tp:ty tp=κ
 byte:ty e = .int .u8
 lies:∀t,ty t=κ→liesAt P P.depth t (2 / P.cellsOf t) 0 (ρ.t 72) 1=true
def copyCheckX (κ:K) (e:Nat):Ext:=fun args H=>match args with
 | [.ptr b [] κ1]=>match H[b]? with
  | some (.var κ0 v)=>match v with
   | .d _ (.agg [.nilPtr,y])=>some (decide (κ1=κ)&&decide (κ0=κ),.tup [],H.set b (.var κ0 (.agg κ0 [.ptr b [] κ,.d (.slice e) y])))
   | .agg _ [.d _ .nilPtr,y]=>some (decide (κ1=κ)&&decide (κ0=κ),.tup [],H.set b (.var κ0 (.agg κ0 [.ptr b [] κ,y])))
   | .agg _ [.ptr b1 [] _,_]=>some (decide (κ1=κ)&&decide (κ0=κ)&&Nat.beq b1 b,.tup [],H)
   | _=>none
  | _=>none
 | _=>none
theorem bld_cells (T:TyOk P ty) {M:Mem} {μ:List Loc} {κ:K} {tp e:Nat} {v:V} {x:Value} (B:BldTy P ty ρ κ tp e) (h:RV ty P.cellsOf M μ v κ x):∃x0 x1,x = .agg #[x0,x1] ∧
  (∀vs,v = .agg κ vs→RVs ty P.cellsOf M μ vs [.ptr tp,.slice e] [x0,x1])∧(∀ds,v = .d κ (.agg ds)→Reps ty M ds [.ptr tp,.slice e] [x0,x1]) ∧
  (∀κ' vs,v = .agg κ' vs→κ'=κ)∧(∀κ' d,v = .d κ' d→κ'=κ):=by
 cases v with
 | d κ' d=>
  simp only[RV] at h
  obtain⟨rfl,h⟩:=h
  obtain⟨ds,cs,rfl,rfl,hr⟩:=Rep.isAgg h B.agg
  rw[B.kids] at hr
  have hr0:=hr
  have hlen:=Reps.length hr
  match ds,hlen,hr with
  | [],hlen,hr=>simp at hlen
  | [d0],hlen,hr=>simp at hlen
  | d0::d1::ds2,hlen,hr=>
   simp only[Reps] at hr
   obtain⟨k0,ks,y0,r0,e1,e2,p0,k1,ks1,y1,r1,e3,e4,p1,p2⟩:=hr
   simp only[List.cons.injEq] at e1
   obtain⟨rfl,rfl⟩:=e1
   simp only[List.cons.injEq] at e3
   obtain⟨rfl,rfl⟩:=e3
   cases ds2 with
   | cons _ _=>simp at hlen
   | nil=>
    simp only[Reps] at p2
    obtain⟨_,rfl⟩:=p2
    have s0:=(Rep.scal _ _ _ _ p0).1 rfl
    have s1:=(Rep.scal _ _ _ _ p1).1 rfl
    have hcs:cs = #[y0,y1]:=by
     apply Array.toList_inj.1
     rw[e2,e4,cells_scal s0,cells_scal s1];rfl
    subst hcs
    refine⟨y0,y1,rfl,fun vs hv=>by simp at hv,fun ds hv=>?_,fun _ _ hv=>by simp at hv,fun κ' d hv=>by simp only[V.d.injEq] at hv;exact hv.1.symm⟩
    simp only[V.d.injEq,D.agg.injEq,true_and] at hv
    rw[←hv];exact hr0
 | agg κ' vs=>
  simp only[RV] at h
  obtain⟨rfl,_,cs,rfl,hr⟩:=h
  rw[B.kids] at hr
  have hr0:=hr
  have hlen:=RVs.length hr
  match vs,hlen,hr with
  | [],hlen,hr=>simp at hlen
  | [d0],hlen,hr=>simp at hlen
  | d0::d1::ds2,hlen,hr=>
   simp only[RVs] at hr
   obtain⟨k0,ks,y0,r0,e1,e2,n0,p0,k1,ks1,y1,r1,e3,e4,n1,p1,p2⟩:=hr
   simp only[List.cons.injEq] at e1
   obtain⟨rfl,rfl⟩:=e1
   simp only[List.cons.injEq] at e3
   obtain⟨rfl,rfl⟩:=e3
   cases ds2 with
   | cons _ _=>simp at hlen
   | nil=>
    simp only[RVs] at p2
    obtain⟨_,rfl⟩:=p2
    have s0:AM.scal y0=true:=(RV.size T.szOk _ _ _ p0 n0).2.2 rfl
    have s1:AM.scal y1=true:=(RV.size T.szOk _ _ _ p1 n1).2.2 rfl
    have hcs:cs = #[y0,y1]:=by
     apply Array.toList_inj.1
     rw[e2,e4,cells_scal s0,cells_scal s1];rfl
    subst hcs
    refine⟨y0,y1,rfl,fun vs hv=>?_,fun ds hv=>by simp at hv,fun κ' vs hv=>by simp only[V.agg.injEq] at hv;exact hv.1.symm,fun _ _ hv=>by simp at hv⟩
    simp only[V.agg.injEq,true_and] at hv
    rw[←hv];exact hr0
 | _=>
  have hk:=B.agg
  cases κ<;>simp[K.isAgg] at hk<;>simp[RV] at h
theorem copyCheckX_ok (T:TyOk P ty) (L:Lays.n240 P ρ) (X:Builder.X72 P ρ) {κ:K} {tp e:Nat} (B:BldTy P ty ρ κ tp e):ExtOk P ty I gl (ρ.f 240) (copyCheckX κ e):=by
 intro cd XX B0 w0 μ H w args v H' xs _ _ h hargs hrun
 unfold copyCheckX at hrun
 split at hrun
 case h_2=>simp at hrun
 rename_i b κ1
 simp only[RVt] at hargs
 obtain⟨sv,_,rfl,hs,rfl⟩:=hargs
 replace hs:=hs.resolve_left (by simp)
 obtain⟨_,hs⟩:=hs
 simp only[RV,pathOff] at hs
 obtain⟨_,l,hμ,hvirt,_,hk1,rfl⟩:=hs
 split at hrun
 case h_2=>simp at hrun
 rename_i κ0 u hH
 have hobj:=h.obj b l _ hμ hH
 simp only[ObjOk] at hobj
 obtain⟨_,hb0,hk0,hkb,cs,et,x,hblk,hrv,hcells,het⟩:=hobj
 have hnewptr:κ0=κ→∀M,RV ty P.cellsOf M μ (.ptr b [] κ) (.ptr tp) (.pointer (some ⟨l.blk,0,none⟩)):=by
  rintro rfl M
  simp only[RV,pathOff]
  exact⟨⟨tp,rfl,B.tp⟩,l,hμ,hvirt,trivial,hk0,by rw[hb0]⟩
 have hfresh:∀(x1:Value) (u1:V),κ0=κ→x = .agg #[.pointer none,x1]→AM.scal x1=true→RV ty P.cellsOf (memOf w (XX++owned μ H)) μ u1 (.slice e) x1 →
   Calls P (ρ.f 240) #[.pointer (some ⟨l.blk,l.base+0,none⟩)] w fun e' w'=>∃y μ',e' = .returned y∧HOk ty P.cellsOf cd XX B0 w0 μ' (H.set b (.var κ0 (.agg κ0 [.ptr b [] κ,u1]))) w' ∧
    RR ty P.cellsOf (M_ XX μ' (H.set b (.var κ0 (.agg κ0 [.ptr b [] κ,u1]))) w') μ' (.tup []) y∧Fut XX B0 μ.length μ H w μ' (H.set b (.var κ0 (.agg κ0 [.ptr b [] κ,u1]))) w':=by
  intro x1 u1 hκ hx hs1 hr1
  subst hκ
  have hcs:cs = #[.pointer none,x1]:=by
   rw[←hcells,hx];rfl
  rw[hcs] at hblk
  rw[hb0]
  refine(copyCheck_fresh L X l.blk et w (by rw[cell_of_block hblk];rfl) (by simp[World.shape?,hblk]) (B.lies et het) (by rw[frozen_of_block hblk];simp)).mono ?_
  rintro _ w' ⟨rfl,rfl⟩
  rw[setCell_put hblk]
  obtain⟨g1,g2⟩:=HOk.put h (o':=.var κ0 (.agg κ0 [.ptr b [] κ0,u1])) (obj:=.cells (#[Value.pointer none,x1].setIfInBounds 0 (.pointer (some ⟨l.blk,0,none⟩))) et (0,0)) hμ hH rfl rfl (by
   simp only[ObjOk]
   refine⟨hvirt,hb0,hk0,hkb,#[.pointer (some ⟨l.blk,0,none⟩),x1],et,.agg #[.pointer (some ⟨l.blk,0,none⟩),x1],?_,?_,rfl,het⟩
   ·rw[putBlk_heap,if_pos ⟨rfl,lt_of_block hblk⟩];rfl
   ·simp only[RV]
    refine⟨trivial,B.agg,_,rfl,?_⟩
    rw[B.kids]
    simp only[RVs]
    refine⟨_,_,.pointer (some ⟨l.blk,0,none⟩),[x1],rfl,by simp[Value.cells],by simp,hnewptr rfl _,_,_,x1,[],rfl,by rw[cells_scal hs1];simp,by simp,hr1,rfl,rfl⟩)
  exact⟨_,μ,rfl,g1,.inr ⟨.bad,by simp[RV,RVt]⟩,g2⟩
 split at hrun
 ·rename_i κ' y
  simp only[Option.some.injEq,Prod.mk.injEq,Bool.and_eq_true,decide_eq_true_eq] at hrun
  obtain⟨⟨rfl,rfl⟩,rfl,rfl⟩:=hrun
  obtain⟨x0,x1,hx,_,hc2,_,hc4⟩:=bld_cells T B hrv
  obtain rfl:=hc4 _ _ rfl
  have hr:=hc2 _ rfl
  simp only[Reps] at hr
  obtain⟨k0,ks,y0,r0,e1,e2,p0,k1,ks1,y1,r1,e3,e4,p1,p2,p3⟩:=hr
  simp only[List.cons.injEq] at e1
  obtain⟨rfl,rfl⟩:=e1
  simp only[List.cons.injEq] at e3
  obtain⟨rfl,rfl⟩:=e3
  simp only[Rep] at p0
  obtain⟨_,rfl⟩:=p0
  have s1:=(Rep.scal _ _ _ _ p1).1 rfl
  subst p3
  rw[e4,cells_scal s1] at e2
  simp[Value.cells] at e2
  obtain⟨rfl,rfl⟩:=e2
  exact hfresh x1 (.d (.slice e) y) rfl hx s1 (by simp only[RV];exact⟨trivial,p1⟩)
 ·rename_i κ' κ2 y
  simp only[Option.some.injEq,Prod.mk.injEq,Bool.and_eq_true,decide_eq_true_eq] at hrun
  obtain⟨⟨rfl,rfl⟩,rfl,rfl⟩:=hrun
  obtain⟨x0,x1,hx,hc1,_,hc3,_⟩:=bld_cells T B hrv
  obtain rfl:=hc3 _ _ rfl
  have hr:=hc1 _ rfl
  simp only[RVs] at hr
  obtain⟨k0,ks,y0,r0,e1,e2,n0,p0,k1,ks1,y1,r1,e3,e4,n1,p1,p2,p3⟩:=hr
  simp only[List.cons.injEq] at e1
  obtain⟨rfl,rfl⟩:=e1
  simp only[List.cons.injEq] at e3
  obtain⟨rfl,rfl⟩:=e3
  simp only[RV,Rep] at p0
  obtain⟨_,_,rfl⟩:=p0
  have s1:AM.scal y1=true:=(RV.size T.szOk _ _ _ p1 n1).2.2 rfl
  subst p3
  rw[e4,cells_scal s1] at e2
  simp[Value.cells] at e2
  obtain⟨rfl,rfl⟩:=e2
  exact hfresh x1 y rfl hx s1 p1
 ·rename_i κ' b1 κ2 y
  simp only[Option.some.injEq,Prod.mk.injEq,Bool.and_eq_true,decide_eq_true_eq] at hrun
  obtain⟨⟨⟨rfl,rfl⟩,hbb⟩,rfl,rfl⟩:=hrun
  obtain rfl:=Nat.eq_of_beq_eq_true hbb
  obtain⟨x0,x1,hx,hc1,_,hc3,_⟩:=bld_cells T B hrv
  obtain rfl:=hc3 _ _ rfl
  have hr:=hc1 _ rfl
  simp only[RVs] at hr
  obtain⟨k0,ks,y0,r0,e1,e2,n0,p0,k1,ks1,y1,r1,e3,e4,n1,p1,p2,p3⟩:=hr
  simp only[List.cons.injEq] at e1
  obtain⟨rfl,rfl⟩:=e1
  simp only[RV,pathOff] at p0
  obtain⟨_,l2,hμ2,_,_,_,rfl⟩:=p0
  rw[hμ] at hμ2
  obtain rfl:=Option.some.inj hμ2
  simp[Value.cells] at e2
  obtain⟨e2,_⟩:=e2
  have hcs:cs = #[x0,x1]:=by rw[←hcells,hx];rfl
  rw[hcs,e2] at hblk
  rw[hb0] at hblk ⊢
  refine(Any.Builder_copyCheck_used L X l.blk w (by rw[cell_of_block hblk];rfl)).mono ?_
  rintro _ w' ⟨rfl,rfl⟩
  exact⟨_,μ,rfl,h,.inr ⟨.bad,by simp[RV,RVt]⟩,⟨fun _ _=>rfl,Nat.le_refl _,Mem.le_refl _,Below.refl _ _,fun _ h=>h⟩⟩
 ·simp at hrun
theorem sameLayout_byte (T:TyOk P ty) (X:Builder.Extra P ρ) {e:Nat} (he:ty e = .int .u8):sameLayout P P.depth e (ρ.t 5)=true:=by
 have hd:P.depth=(2*(P.types.size+Made.depth)+1)+1:=rfl
 rw[hd]
 simp only[sameLayout,under_int T he,X.t5]
 simp
theorem lies_bytes (T:TyOk P ty) (X:Builder.Extra P ρ) {et e cells off n:Nat} (he:ty e = .int .u8) (het:etRow ty et e cells) (hn:off+n≤cells) (h0:0<n) :
  liesAt P P.depth et (cells / P.cellsOf et) off (ρ.t 5) n=true:=by
 have hd:P.depth=(2*(P.types.size+Made.depth)+1)+1:=rfl
 have he1:P.cellsOf e=1:=by rw[T.szOk e (by rw[he];simp),he];rfl
 rw[hd]
 simp only[liesAt,Bool.or_eq_true]
 left
 rcases het with het | ⟨m,het,hm⟩
 ·rw[he] at het
  have hc:P.cellsOf et=1:=by rw[T.szOk et (by rw[het];simp),het];rfl
  generalize hq:(fun x=>sameLayout P P.depth x (ρ.t 5))=q
  have hqe:q et=true:=by rw[←hq];exact sameLayout_byte T X het
  rw[hd]
  simp only[rowAt,hc]
  simp[hn,hqe,Nat.mod_one]
 ·obtain rfl:=hm he
  obtain⟨hu,_,_⟩:=under_array T het
  have hc:P.cellsOf et=cells:=by rw[T.szOk et (by rw[het];simp),het];simp[ksz,he1]
  have hpos:0<cells:=by omega
  have h1:off / cells=0:=Nat.div_eq_of_lt (by omega)
  have h2:off%cells=off:=Nat.mod_eq_of_lt (by omega)
  have h3:cells / cells=1:=Nat.div_self hpos
  generalize hq:(fun x=>sameLayout P P.depth x (ρ.t 5))=q
  have hqe:q e=true:=by rw[←hq];exact sameLayout_byte T X he
  have h4:rowAt P q (2*(P.types.size+Made.depth)+1) e cells off n=true:=by
   simp only[rowAt,he1]
   simp[hn,hqe,Nat.mod_one]
  rw[hd,rowAt]
  simp only[hc,h1,h2,h3,hu]
  rw[if_neg (by omega)]
  simp only[Bool.or_eq_true,Bool.and_eq_true]
  exact .inr ⟨by simp,h4⟩
def stringX (κ:K):Ext:=fun args H=>match args with
 | [.ptr b [] κ1]=>match H[b]? with
  | some (.var κ0 v)=>match v with
   | .d _ (.agg [_,.slice false []])=>some (decide (κ1=κ)&&decide (κ0=κ),.d .str (.str (ofBytes [])),H)
   | .agg _ [_,.d _ (.slice false [])]=>some (decide (κ1=κ)&&decide (κ0=κ),.d .str (.str (ofBytes [])),H)
   | .agg _ [_,.sref r off len]=>match H[r]? with
    | some (.row _ true nn ds)=>some (decide (κ1=κ)&&decide (κ0=κ)&&((bif nn then decide (0<len) else true)&&decide (len≤maxLen)),.d .str (.str (ofBytes ((ds.drop off).take len))),H.set r .dead)
    | _=>none
   | _=>none
  | _=>none
 | _=>none
theorem stringX_ok (T:TyOk P ty) (L:Lays.n169 P ρ) (X:Builder.Extra P ρ) {κ:K} {tp e:Nat} (B:BldTy P ty ρ κ tp e):ExtOk P ty I gl (ρ.f 169) (stringX κ):=by
 intro cd XX B0 w0 μ H w args v H' xs _ _ h hargs hrun
 unfold stringX at hrun
 split at hrun
 case h_2=>simp at hrun
 rename_i b κ1
 simp only[RVt] at hargs
 obtain⟨sv,_,rfl,hs,rfl⟩:=hargs
 replace hs:=hs.resolve_left (by simp)
 obtain⟨_,hs⟩:=hs
 simp only[RV,pathOff] at hs
 obtain⟨_,l,hμ,hvirt,_,hk1,rfl⟩:=hs
 split at hrun
 case h_2=>simp at hrun
 rename_i κ0 u hH
 have hobj:=h.obj b l _ hμ hH
 simp only[ObjOk] at hobj
 obtain⟨_,hb0,hk0,hkb,cs,et,x,hblk,hrv,hcells,het⟩:=hobj
 have hnil:∀x0,κ0=κ→x = .agg #[x0,.slice none 0 0]→AM.scal x0=true →
   Calls P (ρ.f 169) #[.pointer (some ⟨l.blk,l.base+0,none⟩)] w fun e' w'=>e' = .returned (.string ⟨#[]⟩)∧Below w.heap.size w w':=by
  intro x0 hκ hx hs0
  have hcs:cs = #[x0,.slice none 0 0]:=by rw[←hcells,hx];rfl
  rw[hcs] at hblk
  rw[hb0]
  exact bld_String_nil L X w.heap.size l.blk et x0 w hblk
 split at hrun
 ·rename_i κ' d0
  simp only[Option.some.injEq,Prod.mk.injEq,Bool.and_eq_true,decide_eq_true_eq] at hrun
  obtain⟨⟨rfl,rfl⟩,rfl,rfl⟩:=hrun
  obtain⟨x0,x1,hx,_,hc2,_,hc4⟩:=bld_cells T B hrv
  obtain rfl:=hc4 _ _ rfl
  have hr:=hc2 _ rfl
  simp only[Reps] at hr
  obtain⟨k0,ks,y0,r0,e1,e2,p0,k1,ks1,y1,r1,e3,e4,p1,p2,p3⟩:=hr
  simp only[List.cons.injEq] at e1
  obtain⟨rfl,rfl⟩:=e1
  simp only[List.cons.injEq] at e3
  obtain⟨rfl,rfl⟩:=e3
  have s0:=(Rep.scal _ _ _ _ p0).1 rfl
  simp only[Rep] at p1
  obtain⟨_,ad,cap,_,rfl,_,hnn,hcap,_⟩:=p1
  have had:ad=none:=by cases ad with | none=>rfl | some _=>simp at hnn
  subst had
  obtain rfl:=hcap rfl
  subst p3
  rw[e4,cells_scal s0] at e2
  simp[Value.cells] at e2
  obtain⟨rfl,rfl⟩:=e2
  refine(hnil x0 rfl hx s0).mono ?_
  rintro _ w' ⟨rfl,hb⟩
  obtain⟨f1,f2⟩:=h.grow hb
  exact⟨_,μ,rfl,f1,.inr ⟨.str,by simp[RV,Rep,ofBytes]⟩,f2⟩
 ·rename_i κ' d0 κ2
  simp only[Option.some.injEq,Prod.mk.injEq,Bool.and_eq_true,decide_eq_true_eq] at hrun
  obtain⟨⟨rfl,rfl⟩,rfl,rfl⟩:=hrun
  obtain⟨x0,x1,hx,hc1,_,hc3,_⟩:=bld_cells T B hrv
  obtain rfl:=hc3 _ _ rfl
  have hr:=hc1 _ rfl
  simp only[RVs] at hr
  obtain⟨k0,ks,y0,r0,e1,e2,n0,p0,k1,ks1,y1,r1,e3,e4,n1,p1,p2,p3⟩:=hr
  simp only[List.cons.injEq] at e1
  obtain⟨rfl,rfl⟩:=e1
  simp only[List.cons.injEq] at e3
  obtain⟨rfl,rfl⟩:=e3
  have s0:AM.scal y0=true:=(RV.size T.szOk _ _ _ p0 n0).2.2 rfl
  simp only[RV,Rep] at p1
  obtain⟨_,_,ad,cap,_,rfl,_,hnn,hcap,_⟩:=p1
  have had:ad=none:=by cases ad with | none=>rfl | some _=>simp at hnn
  subst had
  obtain rfl:=hcap rfl
  subst p3
  rw[e4,cells_scal s0] at e2
  simp[Value.cells] at e2
  obtain⟨rfl,rfl⟩:=e2
  refine(hnil x0 rfl hx s0).mono ?_
  rintro _ w' ⟨rfl,hb⟩
  obtain⟨f1,f2⟩:=h.grow hb
  exact⟨_,μ,rfl,f1,.inr ⟨.str,by simp[RV,Rep,ofBytes]⟩,f2⟩
 ·rename_i κ' d0 r off len
  split at hrun
  case h_2=>simp at hrun
  rename_i er nn ds hHr
  simp only[Option.some.injEq,Prod.mk.injEq,Bool.and_eq_true,decide_eq_true_eq] at hrun
  obtain⟨⟨⟨rfl,rfl⟩,hlen0,hmax⟩,rfl,rfl⟩:=hrun
  obtain⟨x0,x1,hx,hc1,_,hc3,_⟩:=bld_cells T B hrv
  obtain rfl:=hc3 _ _ rfl
  have hr:=hc1 _ rfl
  simp only[RVs] at hr
  obtain⟨k0,ks,y0,r0,e1,e2,n0,p0,k1,ks1,y1,r1,e3,e4,n1,p1,p2,p3⟩:=hr
  simp only[List.cons.injEq] at e1
  obtain⟨rfl,rfl⟩:=e1
  simp only[List.cons.injEq] at e3
  obtain⟨rfl,rfl⟩:=e3
  have s0:AM.scal y0=true:=(RV.size T.szOk _ _ _ p0 n0).2.2 rfl
  have s1:AM.scal y1=true:=(RV.size T.szOk _ _ _ p1 n1).2.2 rfl
  subst p3
  rw[e4,cells_scal s0,cells_scal s1] at e2
  simp at e2
  obtain⟨rfl,rfl⟩:=e2
  simp only[RV] at p1
  obtain⟨lr,n,e1',hμr,hlr,hke,hlen,hs⟩:=p1
  simp only[K.slice.injEq] at hke
  subst hke
  obtain⟨rfl,rfl⟩:=row_loc h hHr hμr hlr
  have hobr:=h.obj r lr _ hμr hHr
  simp only[ObjOk] at hobr
  obtain⟨_,hnnr,hne,hobr⟩:=hobr
  cases nn with
  | false=>
   have hvr:lr.virt=true:=by
    cases hv:lr.virt with
    | true=>rfl
    | false=>rw[if_neg (by simp[hv])] at hobr;simp at hobr
   rw[if_pos hvr] at hobr
   subst hobr
   obtain⟨a,hx1,ha⟩:∃a,x1 = .slice a 0 0∧a.isSome=false:=by
    rcases hs with ⟨_,_,a,h1,h2⟩ | ⟨h1,_⟩ | ⟨h1,_⟩
    ·exact⟨a,h1,by rw[h2,hnnr]⟩
    ·rw[hvr] at h1;simp at h1
    ·rw[hvr] at h1;simp at h1
   have ha:a=none:=by cases a with | none=>rfl | some _=>simp at ha
   subst ha hx1
   refine(hnil x0 rfl hx s0).mono ?_
   rintro _ w' ⟨rfl,hb⟩
   obtain⟨f1,f2⟩:=h.grow hb
   obtain⟨g1,g2⟩:=f1.less (o':=.dead) hμr hHr (by simp[ownB]) (by simp[usesB]) (fun _ _=>trivial)
   exact⟨_,μ,rfl,g1,.inr ⟨.str,by simp[RV,Rep,ofBytes]⟩,Fut.trans (Nat.le_refl _) f2 g2⟩
  | true=>
   simp only[cond_true,decide_eq_true_eq] at hlen0
   have hvr:lr.virt=false:=by
    rcases hs with ⟨_,h1,_⟩ | ⟨h1,_⟩ | ⟨h1,_⟩
    ·omega
    ·exact h1
    ·exact h1
   rw[if_neg (by simp[hvr])] at hobr
   obtain⟨_,hcap,cs2,et2,fz2,pre,mid,post,hb2,hcs2,hpre,hrep,hpost,hfz2,het2⟩:=hobr
   obtain⟨c,rfl,hc1',hc2',_⟩:∃c,x1 = .slice (some ⟨lr.blk,lr.base+off*P.cellsOf e,none⟩) len c∧len≤c∧off+c≤lr.cap∧ds.length≤off+c:=by
    rcases hs with ⟨h1,_⟩ | ⟨_,c,h1⟩ | ⟨_,h1,_⟩
    ·rw[hvr] at h1;simp at h1
    ·exact⟨c,h1⟩
    ·omega
   have he8:ty e = .int .u8:=B.byte
   have hone:P.cellsOf e=1:=by rw[T.szOk e hne,he8];rfl
   obtain⟨q1,vs,q2,e1a,l1a,l1b,hvs,_,_⟩:=Reps.drop_take T.szOk hne hrep hlen
   rw[hone] at l1a l1b
   simp only[Nat.mul_one] at l1a l1b
   have hdl:((ds.drop off).take len).length=len:=by simp;omega
   obtain⟨z1,z2⟩:=reps_ints he8 ((ds.drop off).take len) vs (by rw[hdl];exact hvs)
   have hzl:(((ds.drop off).take len).map D.i).length=len:=by rw[List.length_map,hdl]
   have hcs:cs = #[x0,.slice (some ⟨lr.blk,lr.base+off*P.cellsOf e,none⟩) (((ds.drop off).take len).map D.i).length c]:=by rw[←hcells,hx,hzl];rfl
   rw[hcs] at hblk
   have hsz:lr.base+off*P.cellsOf e+len≤cs2.size:=by
    have h9:cs2.size=cs2.toList.length:=(by simp)
    rw[h9,hcs2,e1a,hone];simp only[List.length_append,hpre,l1a,l1b];omega
   rw[hb0]
   have hcell:∀j x,(((ds.drop off).take len).map D.i)[j]? = some x→w.cell? ⟨lr.blk,lr.base+off*P.cellsOf e+j,none⟩=some (.int .u8 x):=by
    intro j x hj
    have hjv:vs[j]? = some (Value.int .u8 x):=by rw[z2,List.getElem?_map,hj];rfl
    have:=block_cells hb2 (c1:=pre++q1) (y:=vs) (c2:=q2++post) (by rw[hcs2,e1a];simp) j _ hjv
    simpa[hpre,l1a,hone,Nat.add_assoc] using this
   refine(bld_String L X l.blk lr.blk (lr.base+off*P.cellsOf e) c et et2 cs2.size x0 (((ds.drop off).take len).map D.i) w hblk (by omega) (by intro h0;rw[h0] at hzl;simp at hzl;omega) (by simp[World.shape?,hb2])
    (lies_bytes T X he8 het2 (by rw[hzl];exact hsz) (by rw[hzl];exact hlen0)) (by rw[hzl];unfold maxLen at hmax;omega) hcell).mono ?_
   rintro _ w' ⟨rfl,rfl⟩
   obtain⟨f1,f2⟩:=h.grow (w':=w.drew) ⟨rfl,rfl,rfl,Nat.le_refl _,fun _ _=>rfl⟩
   have hb2':w.drew.heap[lr.blk]? = some (.cells cs2 et2 fz2):=hb2
   obtain⟨fz3,hfz3⟩:∃fz3,w.drew.freeze ⟨lr.blk,lr.base+off*P.cellsOf e,none⟩ (((ds.drop off).take len).map D.i).length=putBlk w.drew lr.blk (.cells cs2 et2 fz3):=by
    obtain⟨lo,hi⟩:=fz2
    refine⟨if lo==hi then (lr.base+off*P.cellsOf e,lr.base+off*P.cellsOf e+(((ds.drop off).take len).map D.i).length) else (min lo (lr.base+off*P.cellsOf e),max hi (lr.base+off*P.cellsOf e+(((ds.drop off).take len).map D.i).length)),?_⟩
    unfold World.freeze putBlk
    rw[if_neg (by rw[hzl];omega)]
    congr 1
    apply Array.ext_getElem?
    intro i
    simp only[Array.getElem?_modify,Array.getElem?_setIfInBounds]
    by_cases hi:lr.blk=i
    ·subst hi
     have hlt:=lt_of_block hb2'
     simp only[if_true,hb2',Option.map_some,hlt]
    ·simp[hi]
   rw[hfz3]
   obtain⟨g1,g2⟩:=HOk.killW f1 (obj:=.cells cs2 et2 fz3) hμr hHr (by simp[ownB,hvr])
   refine⟨_,μ,rfl,g1,.inr ⟨.str,?_⟩,Fut.trans (Nat.le_refl _) f2 g2⟩
   simp[RV,Rep,ofBytes,Function.comp_def]
 ·simp at hrun
end
end Go.AM
namespace Go.AM
open Go Go.RowKit
def cutCells (sz:Nat→Nat) (κ:K) (cs:List Value):Option (Value×List Value):=
 if κ.isAgg then (if ksz sz κ≤cs.length then some (.agg (cs.take (ksz sz κ)).toArray,cs.drop (ksz sz κ)) else none)
 else match cs with | v::cs=>(match v with | .agg _=>none | _=>some (v,cs)) | []=>none
mutual
def zrep (ty:Nat→K) (sz:Nat→Nat):D→K→Value→Bool
 | .bool b,.bool,.bool b'=>b==b'
 | .int k n,.int k',.int k'' n'=>decide (k=k')&&decide (k=k'')&&n==n'
 | .str s,.str,.string s'=>s.data.toList==s'.data.toList
 | .agg ds,κ,.agg cs=>κ.isAgg&&zreps ty sz ds (κ.kids ty) cs.toList
 | .slice false [],.slice _,.slice none 0 0=>true
 | .nilIface,.iface _,.nilIface=>true
 | .nilFunc,.func,.nilFunc=>true
 | .nilPtr,.ptr _,.pointer none=>true
 | .nilMap,.map _ _,.map none=>true
 | _,_,_=>false
def zreps (ty:Nat→K) (sz:Nat→Nat):List D→List K→List Value→Bool
 | [],[],[]=>true
 | d::ds,κ::κs,cs=>match cutCells sz κ cs with
  | some (x,rest)=>zrep ty sz d κ x&&zreps ty sz ds κs rest
  | none=>false
 | _,_,_=>false
end
section
variable {ty:Nat→K} {sz:Nat→Nat}
mutual
theorem zrep_ok {M:Mem}:∀(d:D) (κ:K) (v:Value),zrep ty sz d κ v=true→Rep ty M d κ v
 | .bool b,κ,v,h=>by
  cases κ<;>cases v<;>simp[zrep] at h
  subst h;simp[Rep]
 | .int k n,κ,v,h=>by
  cases κ<;>cases v<;>simp[zrep] at h
  obtain⟨⟨rfl,rfl⟩,rfl⟩:=h;simp[Rep]
 | .str s,κ,v,h=>by
  cases κ<;>cases v<;>simp[zrep] at h
  rename_i s'
  have:s=s':=by cases s;cases s';congr
  subst this;simp[Rep]
 | .agg ds,κ,v,h=>by
  cases v<;>simp[zrep] at h
  rename_i cs
  simp only[Rep]
  exact⟨h.1,cs,rfl,zreps_ok ds _ _ h.2⟩
 | .slice nn ds,κ,v,h=>by
  unfold zrep at h
  split at h<;>simp at *
  rename_i h1
  obtain⟨rfl,rfl⟩:=h1
  simp only[Rep]
  exact⟨_,none,0,rfl,rfl,Nat.le_refl _,rfl,fun _=>rfl,.inl trivial⟩
 | .iface t x,κ,v,h=>by cases κ<;>cases v<;>simp[zrep] at h
 | .nilIface,κ,v,h=>by cases κ<;>cases v<;>simp[zrep] at h;simp[Rep]
 | .fn f,κ,v,h=>by cases κ<;>cases v<;>simp[zrep] at h
 | .nilFunc,κ,v,h=>by cases κ<;>cases v<;>simp[zrep] at h;simp[Rep]
 | .nilPtr,κ,v,h=>by
  unfold zrep at h
  split at h<;>simp at *
  simp[Rep]
 | .nilMap,κ,v,h=>by
  unfold zrep at h
  split at h<;>simp at *
  simp[Rep]
 | .tup ds,κ,v,h=>by cases κ<;>cases v<;>simp[zrep] at h
theorem zreps_ok {M:Mem}:∀(ds:List D) (κs:List K) (cs:List Value),zreps ty sz ds κs cs=true→Reps ty M ds κs cs
 | [],κs,cs,h=>by
  cases κs<;>cases cs<;>simp[zreps] at h
  simp[Reps]
 | d::ds,κs,cs,h=>by
  cases κs with
  | nil=>simp[zreps] at h
  | cons κ κs=>
   simp only[zreps] at h
   split at h
   ·rename_i x rest hc
    simp only[Bool.and_eq_true] at h
    simp only[Reps]
    refine⟨κ,κs,x,rest,rfl,?_,zrep_ok d κ x h.1,zreps_ok ds κs rest h.2⟩
    unfold cutCells at hc
    split at hc
    ·split at hc
     ·simp only[Option.some.injEq,Prod.mk.injEq] at hc
      obtain⟨rfl,rfl⟩:=hc
      simp[cells_agg]
     ·simp at hc
    ·split at hc
     ·rename_i v cs'
      split at hc
      ·simp at hc
      ·rename_i hna
       simp only[Option.some.injEq,Prod.mk.injEq] at hc
       obtain⟨rfl,rfl⟩:=hc
       cases v<;>first | (exact absurd rfl (hna _)) | simp[Value.cells]
     ·simp at hc
   ·simp at h
end
end
def fieldsB (P:Program) (ty:Nat→K) (sz:Nat→Nat) (κ:K):List Field→List Nat→Nat→Bool
 | [],[],_=>true
 | f::fields,t::fs,j=>f.type==t&&f.offset==kOff sz κ j&&decide (0<sz f.type)&&f.name != "_" && (ty f.type).ok&&fieldsB P ty sz κ fields fs (j+1)
 | _,_,_=>false
def descB (P:Program) (ty:Nat→K) (t:Nat) (κ:K):Bool:=
 match κ,P.underlying t with
 | .bool,some .bool=>true
 | .int k,some (.int k')=>decide (k=k')
 | .str,some .string=>true
 | .struct fs,some (.struct fields)=>fieldsB P ty P.cellsOf (.struct fs) fields.toList fs 0
 | .array n e,some (.array n' e')=>n==n'&&e==e'&&decide (0<P.cellsOf e)&&(ty e).ok
 | .slice e,some (.slice e')=>e==e'&&(ty e).ok
 | .map a e,some (.map a' e')=>a==a'&&e==e'&&(ty a).ok&&(ty e).ok
 | .iface m,some (.interface ms)=>ms.isEmpty==!m
 | .ptr e,some (.pointer e')=>e==e'
 | .func,some (.func _ _ _)=>true
 | _,_=>false
def tyB (P:Program) (ty:Nat→K) (t:Nat):Bool:=
 match ty t with
 | .bad=>true
 | κ=>match P.info? t with
  | none=>false
  | some i=>i.size==ksz P.cellsOf κ&&decide (i.bytes≤4096)&&decide (i.size≤4096)&&(match i.zero with | some z=>zrep ty P.cellsOf (zero ty κ) κ z | none=>false) &&
   (!K.cmp ty 20 κ||(i.comparable&&!P.eqGuardType P.depth t&&!P.stoodInHeld t))&&descB P ty t κ
theorem ok_ne {κ:K} (h:κ.ok=true):κ≠.bad:=by rintro rfl;simp[K.ok] at h
theorem fieldsB_ok {P:Program} {ty:Nat→K} {sz:Nat→Nat} {κ:K}:∀(fields:List Field) (fs:List Nat) (j:Nat),fieldsB P ty sz κ fields fs j=true →
  fields.map (·.type)=fs∧∀(i:Nat) (f:Field),fields[i]? = some f→f.offset=kOff sz κ (j+i)∧0<sz f.type∧f.name ≠ "_" ∧ ty f.type≠.bad
 | [],[],j,_=>⟨rfl,by simp⟩
 | [],_::_,j,h=>by simp[fieldsB] at h
 | _::_,[],j,h=>by simp[fieldsB] at h
 | f::fields,t::fs,j,h=>by
  simp only[fieldsB,Bool.and_eq_true,beq_iff_eq,decide_eq_true_eq,bne_iff_ne] at h
  obtain⟨⟨⟨⟨⟨h1,h2⟩,h3⟩,h4⟩,h5⟩,h6⟩:=h
  obtain⟨k1,k2⟩:=fieldsB_ok fields fs (j+1) h6
  refine⟨by simp[h1,k1],fun i f' hi=>?_⟩
  cases i with
  | zero=>simp at hi;subst hi;exact⟨h2,h3,h4,ok_ne h5⟩
  | succ i=>
   obtain⟨a,b⟩:=k2 i f' (by simpa using hi)
   exact⟨by rw[a];congr 1;omega,b⟩
theorem tyB_ok {P:Program} {ty:Nat→K} {t:Nat} (h:tyB P ty t=true) (hb:ty t≠.bad):∃i,TyFact P ty t i:=by
 unfold tyB at h
 split at h
 ·rename_i hk;exact absurd hk hb
 ·split at h
  ·simp at h
  ·rename_i i hi
   simp only[Bool.and_eq_true,beq_iff_eq,decide_eq_true_eq,Bool.or_eq_true,Bool.not_eq_true'] at h
   obtain⟨⟨⟨⟨⟨h1,h2⟩,h3⟩,h4⟩,h5⟩,h6⟩:=h
   refine⟨i,hi,h1,h2,h3,?_,?_,?_⟩
   ·cases hz:i.zero with
    | none=>rw[hz] at h4;simp at h4
    | some z=>rw[hz] at h4;exact⟨z,rfl,fun M=>zrep_ok _ _ _ h4⟩
   ·intro hc
    rcases h5 with h5 | h5
    ·rw[hc] at h5;simp at h5
    ·exact⟨h5.1.1,h5.1.2,h5.2⟩
   ·unfold descB at h6
    split at h6
    case h_11=>simp at h6
    all_goals (rename_i hk hu;rw[hk];simp only[descOk])
    ·exact hu
    ·simp only[decide_eq_true_eq] at h6;subst h6;exact hu
    ·exact hu
    ·obtain⟨k1,k2⟩:=fieldsB_ok _ _ _ h6
     exact⟨_,hu,k1,fun j f hj=>by have:=k2 j f (by simpa using hj);simpa using this⟩
    ·simp only[Bool.and_eq_true,beq_iff_eq,decide_eq_true_eq] at h6
     obtain⟨⟨⟨rfl,rfl⟩,h7⟩,h8⟩:=h6
     exact⟨hu,h7,ok_ne h8⟩
    ·simp only[Bool.and_eq_true,beq_iff_eq] at h6
     obtain⟨rfl,h8⟩:=h6
     exact⟨hu,ok_ne h8⟩
    ·simp only[Bool.and_eq_true,beq_iff_eq] at h6
     obtain⟨⟨⟨rfl,rfl⟩,h7⟩,h8⟩:=h6
     exact⟨hu,ok_ne h7,ok_ne h8⟩
    ·exact⟨_,hu,by simpa using h6⟩
    ·simp only[beq_iff_eq] at h6;subst h6;exact hu
    ·exact⟨_,_,_,hu⟩
theorem tyOk_of {P:Program} {tys:List K} (h:(List.range tys.length).all (tyB P fun t=>tys.getD t .bad)=true):TyOk P fun t=>tys.getD t .bad:=by
 intro t ht
 refine tyB_ok ?_ ht
 have hlt:t<tys.length:=by
  rcases Nat.lt_or_ge t tys.length with h | h
  ·exact h
  ·simp[List.getD_eq_getElem?_getD,List.getElem?_eq_none h] at ht
 exact List.all_eq_true.1 h t (List.mem_range.2 hlt)
end Go.AM
namespace Go.Proofs
open Go.Shelf
def Tryz.lays197_ren:Go.Shelf.Ren:=⟨fun | 197=>261 | 260=>264 | n=>n,fun | 9=>9 | 21=>21 | 3=>3 | 4=>4 | 5=>5 | 105=>354 | 119=>356 | 0=>0 | 46=>222 | 139=>359 | 138=>358 | n=>n,fun | 3=>1 | 4=>2 | n=>n⟩
theorem Tryz.lays197:Go.Proofs.Lays.n197 Tryz.prog Tryz.lays197_ren:={
 mixed:=by kernel_rfl
 f197:=Tryz.func261.trans (congrArg some (by kernel_rfl))
 f260:=Tryz.func264.trans (congrArg some (by kernel_rfl))
 t0:=Tryz.underlying0
 a0:=Tryz.isAgg0
 z0:=Tryz.sizeOf0
 v0:=Tryz.zeroValue0
 t3:=Tryz.underlying3
 a3:=Tryz.isAgg3
 z3:=Tryz.sizeOf3
 v3:=Tryz.zeroValue3
 t4:=Tryz.underlying4
 a4:=Tryz.isAgg4
 z4:=Tryz.sizeOf4
 v4:=Tryz.zeroValue4
 t5:=Tryz.underlying5
 a5:=Tryz.isAgg5
 z5:=Tryz.sizeOf5
 v5:=Tryz.zeroValue5
 t9:=Tryz.underlying9
 a9:=Tryz.isAgg9
 z9:=Tryz.sizeOf9
 v9:=Tryz.zeroValue9
 t21:=Tryz.underlying21
 a21:=Tryz.isAgg21
 z21:=Tryz.sizeOf21
 v21:=Tryz.zeroValue21
 t46:=Tryz.underlying222
 a46:=Tryz.isAgg222
 z46:=Tryz.sizeOf222
 v46:=Tryz.zeroValue222
 t105:=Tryz.underlying354
 a105:=Tryz.isAgg354
 z105:=Tryz.sizeOf354
 v105:=Tryz.zeroValue354
 t119:=Tryz.underlying356
 a119:=Tryz.isAgg356
 z119:=Tryz.sizeOf356
 t138:=Tryz.underlying358
 a138:=Tryz.isAgg358
 z138:=Tryz.sizeOf358
 v138:=Tryz.zeroValue358
 t139:=Tryz.underlying359
 a139:=Tryz.isAgg359
 z139:=Tryz.sizeOf359
 v139:=Tryz.zeroValue359
 g3:=by kernel_rfl
 g4:=by kernel_rfl }
def Tryz.lays22_ren:Go.Shelf.Ren:=⟨fun | 22=>246 | 29=>259 | 30=>260 | 36=>263 | 17=>160 | n=>n,fun | 24=>66 | 9=>9 | 3=>3 | 4=>4 | 0=>0 | n=>n,fun | n=>n⟩
theorem Tryz.lays22:Go.Proofs.Lays2.n22 Tryz.prog Tryz.lays22_ren:={
 mixed:=by kernel_rfl
 f17:=Tryz.func160.trans (congrArg some (by kernel_rfl))
 f22:=Tryz.func246.trans (congrArg some (by kernel_rfl))
 f29:=Tryz.func259.trans (congrArg some (by kernel_rfl))
 f30:=Tryz.func260.trans (congrArg some (by kernel_rfl))
 f36:=Tryz.func263.trans (congrArg some (by kernel_rfl))
 t0:=Tryz.underlying0
 a0:=Tryz.isAgg0
 z0:=Tryz.sizeOf0
 v0:=Tryz.zeroValue0
 t3:=Tryz.underlying3
 a3:=Tryz.isAgg3
 z3:=Tryz.sizeOf3
 v3:=Tryz.zeroValue3
 t4:=Tryz.underlying4
 a4:=Tryz.isAgg4
 z4:=Tryz.sizeOf4
 v4:=Tryz.zeroValue4
 t9:=Tryz.underlying9
 a9:=Tryz.isAgg9
 z9:=Tryz.sizeOf9
 v9:=Tryz.zeroValue9
 t24:=Tryz.underlying66
 a24:=Tryz.isAgg66
 z24:=Tryz.sizeOf66
 v24:=Tryz.zeroValue66
 i9:=by kernel_rfl }
end Go.Proofs
namespace Go.Proofs
open Go.Shelf
def Tryz.lays169_ren:Go.Shelf.Ren:=⟨fun | 169=>62 | n=>n,fun | 70=>111 | 9=>9 | 0=>0 | 72=>113 | 37=>108 | 127=>186 | 3=>3 | 5=>5 | n=>n,fun | n=>n⟩
theorem Tryz.lays169:Go.Proofs.Lays.n169 Tryz.prog Tryz.lays169_ren:={
 mixed:=by kernel_rfl
 f169:=Tryz.func62.trans (congrArg some (by kernel_rfl))
 t0:=Tryz.underlying0
 a0:=Tryz.isAgg0
 z0:=Tryz.sizeOf0
 v0:=Tryz.zeroValue0
 t3:=Tryz.underlying3
 a3:=Tryz.isAgg3
 z3:=Tryz.sizeOf3
 v3:=Tryz.zeroValue3
 t9:=Tryz.underlying9
 a9:=Tryz.isAgg9
 z9:=Tryz.sizeOf9
 v9:=Tryz.zeroValue9
 t37:=Tryz.underlying108
 a37:=Tryz.isAgg108
 z37:=Tryz.sizeOf108
 v37:=Tryz.zeroValue108
 t70:=Tryz.underlying111
 a70:=Tryz.isAgg111
 z70:=Tryz.sizeOf111
 v70:=Tryz.zeroValue111
 t72:=Tryz.underlying113
 a72:=Tryz.isAgg113
 z72:=Tryz.sizeOf113
 v72:=Tryz.zeroValue113
 t127:=Tryz.underlying186
 a127:=Tryz.isAgg186
 z127:=Tryz.sizeOf186
 v127:=Tryz.zeroValue186 }
theorem Tryz.Builder_Extra_169:Builder.Extra Tryz.prog Tryz.lays169_ren:={
 sizeBuilder:=by kernel_rfl
 liesBuilder:=by kernel_rfl
 t5:=Tryz.underlying5
 a5:=Tryz.isAgg5
 z5:=Tryz.sizeOf5
 v5:=Tryz.zeroValue5
 infoByte:=by kernel_rfl
 cellsByte:=by kernel_rfl
 sizeByte:=by kernel_rfl
 neB5:=by decide }
def Tryz.lays240_ren:Go.Shelf.Ren:=⟨fun | 240=>109 | 276=>168 | n=>n,fun | 0=>0 | 4=>4 | 9=>9 | 20=>20 | 37=>108 | 70=>111 | 72=>113 | 164=>251 | n=>n,fun | n=>n⟩
theorem Tryz.lays240:Go.Proofs.Lays.n240 Tryz.prog Tryz.lays240_ren:={
 mixed:=by kernel_rfl
 f240:=Tryz.func109.trans (congrArg some (by kernel_rfl))
 f276:=Tryz.func168.trans (congrArg some (by kernel_rfl))
 t0:=Tryz.underlying0
 a0:=Tryz.isAgg0
 z0:=Tryz.sizeOf0
 v0:=Tryz.zeroValue0
 t4:=Tryz.underlying4
 a4:=Tryz.isAgg4
 z4:=Tryz.sizeOf4
 v4:=Tryz.zeroValue4
 t9:=Tryz.underlying9
 a9:=Tryz.isAgg9
 z9:=Tryz.sizeOf9
 v9:=Tryz.zeroValue9
 t20:=Tryz.underlying20
 a20:=Tryz.isAgg20
 z20:=Tryz.sizeOf20
 v20:=Tryz.zeroValue20
 t70:=Tryz.underlying111
 a70:=Tryz.isAgg111
 z70:=Tryz.sizeOf111
 v70:=Tryz.zeroValue111
 t72:=Tryz.underlying113
 a72:=Tryz.isAgg113
 z72:=Tryz.sizeOf113
 v72:=Tryz.zeroValue113
 t164:=Tryz.underlying251
 a164:=Tryz.isAgg251
 z164:=Tryz.sizeOf251
 v164:=Tryz.zeroValue251 }
theorem Tryz.X72_240:Builder.X72 Tryz.prog Tryz.lays240_ren:={ sizeBuilder:=by kernel_rfl,liesBuilder:=by kernel_rfl }
end Go.Proofs
namespace Go.AM.SY
open Go Go.AM Go.Proofs Go.RowKit
def tys:List K:=[
.bad,.func,.int .i64,.int .i64,.bool,.int .u8,.int .u8,.struct [2,3,4,6],
.struct [2,3,4,6],.str,.str,.str,.int .u64,.bad,.bad,.ptr 361,
.ptr 364,.ptr 372,.struct [17],.struct [17],.iface false,.int .i32,.slice 68,.struct [22,3,3],
.struct [22,3,3],.slice 32,.func,.func,.int .i64,.array 32 5,.array 32 5,.struct [28,3,9,3,3,30],
.struct [28,3,9,3,3,30],.slice 49,.bad,.func,.slice 62,.bad,.func,.struct [22,3,3],
.func,.func,.func,.func,.bad,.func,.func,.func,
.struct [3,3,9],.struct [3,3,9],.func,.slice 74,.func,.slice 70,.bad,.func,
.slice 59,.func,.struct [49,4],.struct [49,4],.func,.func,.struct [3,3,9],.func,
.func,.int .i64,.slice 9,.struct [3,9,9,4,3,66],.struct [3,9,9,4,3,66],.struct [65,3,9,68,66],.struct [65,3,9,68,66],.bad,
.func,.struct [28,9,9,3,3,3],.struct [28,9,9,3,3,3],.func,.func,.bad,.func,.func,
.func,.slice 3,.func,.func,.struct [3,30,25],.struct [3,30,25],.bad,.func,
.bad,.func,.bad,.func,.func,.func,.func,.slice 212,
.struct [95,3,3],.struct [95,3,3],.bad,.func,.func,.func,.bad,.func,
.func,.func,.func,.func,.slice 5,.func,.func,.ptr 113,
.struct [111,108],.struct [111,108],.func,.iface true,.iface true,.bad,.func,.func,
.func,.func,.func,.func,.func,.func,.func,.func,
.func,.struct [],.struct [],.bad,.bad,.func,.func,.func,
.func,.func,.func,.func,.ptr 142,.struct [24,74,25],.struct [24,74,25],.func,
.array 12 143,.func,.func,.func,.func,.ptr 151,.struct [9,30,85,97],.struct [9,30,85,97],
.func,.struct [3,30,25],.bad,.func,.slice 163,.struct [156,3,3],.struct [156,3,3],.bad,
.func,.func,.struct [68,3,30],.struct [68,3,30],.func,.map 3 3,.slice 30,.func,
.func,.func,.func,.ptr 173,.struct [85,9,3],.struct [85,9,3],.array 5 26,.bad,
.func,.func,.func,.func,.slice 183,.func,.iface true,.iface true,
.func,.func,.ptr 5,.func,.array 5 4,.func,.ptr 193,.func,
.struct [9],.struct [9],.func,.bad,.func,.func,.struct [65,3],.struct [65,3],
.func,.ptr 199,.array 4 152,.bad,.func,.bad,.func,.func,
.func,.bad,.func,.func,.struct [68,3,30],.func,.int .u32,.array 8 214,
.func,.array 64 214,.func,.func,.bad,.func,.int .u64,.func,
.bad,.func,.func,.func,.func,.func,.struct [229],.struct [229],
.bad,.ptr 97,.func,.func,.func,.struct [236],.struct [236],.ptr 212,
.func,.func,.func,.func,.func,.func,.str,.bad,
.func,.int .i64,.array 32 5,.bad,.func,.array 8 9,.func,.bad,
.func,.bad,.func,.func,.bad,.func,.func,.func,
.func,.func,.func,.bad,.func,.func,.func,.func,
.int .u64,.bad,.bad,.func,.iface true,.iface true,.func,.int .u8,
.func,.func,.func,.func,.func,.func,.int .u64,.func,
.func,.ptr 4,.func,.func,.slice 214,.struct [3,9,4],.struct [3,9,4],.func,
.func,.struct [30,9,4],.struct [30,9,4],.func,.struct [9,9,4],.struct [9,9,4],.func,.func,
.func,.func,.func,.func,.slice 21,.func,.func,.bad,
.map 28 20,.func,.func,.func,.bad,.func,.func,.func,
.func,.func,.struct [17],.struct [17],.ptr 376,.func,.func,.func,
.iface true,.bad,.func,.iface true,.iface true,.slice 116,.func,.func,
.func,.func,.func,.func,.str,.func,.func,.func,
.func,.func,.bad,.func,.func,.func,.bad,.func,
.func,.func,.bad,.func,.array 256 5,.struct [5,5],.struct [5,5],.array 16 358,
.struct [17,17,17,9],.struct [17,17,17,9],.array 0 16,.bad,.bad,.func,.func,.int .u8,
.func,.int .i32,.int .i32,.struct [12,12,214,367,5,5,279,368,186,369,370],.struct [12,12,214,367,5,5,279,368,186,369,370],.func,.func,.bad,
.bad,.ptr 381,.func,.int .u16,.bad,.bad,.bad,.int .i32,
.bad,.bad,.ptr 116]
def ty (t:Nat):K:=tys.getD t .bad
theorem tyOk:TyOk Tryz.prog ty:=tyOk_of (by kernel_rfl)
theorem mixed:Tryz.prog.follows .mixedOrders=true:=by kernel_rfl
def plainNames (l:List Func):Bool:=l.all fun f=>!(f.name == "runtime.NumGoroutine")
theorem names:plainNames Tryz.prog.funcs.toList=true:=by kernel_rfl
def plainRounds (l:List Func):Bool:=l.all roundsOk
theorem rounds_ok:plainRounds Tryz.prog.funcs.toList=true:=by kernel_rfl
def look {A:Type} (l:List (Nat×A)) (f:Nat):Option A:=match l.find? fun e=>e.1==f with | some e=>some e.2 | none=>none
def look2 (l:List (Nat×Nat×Hint)) (f i:Nat):Hint:=match l.find? fun e=>e.1==f&&e.2.1==i with | some e=>e.2.2 | none=>{}
def meths:List (String×List (Nat×Nat)):=[("cenotaph/event.put",[(246,286),(249,288),(250,290)])]
def lookM (m:String):List (Nat×Nat):=match meths.find? fun e=>e.1==m with | some e=>e.2 | none=>[]
def prims:List (Nat×(List D→Option D)):=[(258,add64P)]
noncomputable def env (cons:List (Nat×Con)) (exts:List (Nat×Ext)) (hints:List (Nat×Nat×Hint)) (M:Nat):Env:=
 {ty:=ty,fn:=fun f=>Tryz.prog.funcs[f]?,con:=look cons,hint:=look2 hints,fuel:=M+1,ext:=look exts,prim:=look prims,meth:=lookM }
def I (w:World):Prop:=Lib.Utf8Tabs 1 2 w
def gl:Nat:=3
theorem hgl (w:World) (h:I w):gl≤w.heap.size:=by
 have:=(h.2 0 (by omega)).1
 unfold gl
 rcases Nat.lt_or_ge 2 w.heap.size with h1 | h1
 ·omega
 ·simp[World.cell?,Array.getElem?_eq_none h1] at this
theorem hk (w w':World) (hb:Below gl w w') (h:I w):I w':=by
 have e:∀b o,b<3→w'.cell? ⟨b,o,none⟩=w.cell? ⟨b,o,none⟩:=fun b o hb2=>cell_congr (hb.block b hb2)
 exact⟨fun c hc=>by rw[e 1 _ (by omega)];exact h.1 c hc,fun i hi=>by rw[e 2 _ (by omega),e 2 _ (by omega)];exact h.2 i hi⟩
def ConOk (e:Nat×Con):Prop:=∀fn,Tryz.prog.funcs[e.1]? = some fn→Contract Tryz.prog ty I e.1 fn e.2
def XOk (e:Nat×Ext):Prop:=ExtOk Tryz.prog ty I gl e.1 e.2
theorem allNil {B:Type} {Q:B→Prop}:∀x∈([]:List B),Q x:=fun _ h=>absurd h List.not_mem_nil
theorem allCons {B:Type} {Q:B→Prop} {e:B} {l:List B} (h:Q e) (hl:∀x∈l,Q x):∀x∈e::l,Q x:=by
 intro x hx
 rcases List.mem_cons.1 hx with rfl | hx
 ·exact h
 ·exact hl x hx
theorem meth0_246 (y:Value) (w:World):(Go.method (Tryz.prog.types.size+Made.depth) 246 y "cenotaph/event.put").run Tryz.prog w = .ok (286,y) w:=by kernel_rfl
theorem meth0_249 (y:Value) (w:World):(Go.method (Tryz.prog.types.size+Made.depth) 249 y "cenotaph/event.put").run Tryz.prog w = .ok (288,y) w:=by kernel_rfl
theorem meth0_250 (y:Value) (w:World):(Go.method (Tryz.prog.types.size+Made.depth) 250 y "cenotaph/event.put").run Tryz.prog w = .ok (290,y) w:=by kernel_rfl
theorem meths_ok (m:String) (p:Nat×Nat) (hp:p∈lookM m) (y:Value) (w:World):(Go.method (Tryz.prog.types.size+Made.depth) p.1 y m).run Tryz.prog w = .ok (p.2,y) w:=by
 unfold lookM at hp
 split at hp
 ·rename_i e he
  have h1:=List.find?_some he
  have h2:=List.mem_of_find?_eq_some he
  simp only[beq_iff_eq] at h1
  subst h1
  simp only[meths,List.mem_cons,List.not_mem_nil,or_false] at h2
  rcases h2 with rfl
  ·simp only[List.mem_cons,List.not_mem_nil,or_false] at hp
   rcases hp with rfl | rfl | rfl
   ·exact meth0_246 y w
   ·exact meth0_249 y w
   ·exact meth0_250 y w
 ·exact absurd hp List.not_mem_nil
theorem prims_ok:∀e∈prims,PrimOk Tryz.prog ty e.1 e.2:=allCons (add64_ok (fn0:=Tryz.f258) (by kernel_rfl) (by kernel_rfl) (by kernel_rfl) (by kernel_rfl) (by kernel_rfl) (by kernel_rfl) (t1:=Tryz.f258.resultTypes[0]!) (t2:=Tryz.f258.resultTypes[1]!) (by kernel_rfl) (by kernel_rfl) (by kernel_rfl)) allNil
def voidC:Con:={ run:=fun _=>none }
theorem void_ok (n:Nat):ConOk (n,voidC):=fun fn _ X w ds xs r _ _ _ h=>by simp[voidC] at h
theorem envOk {cons:List (Nat×Con)} {exts:List (Nat×Ext)} {hints:List (Nat×Nat×Hint)} {M:Nat} (hc:∀e∈cons,ConOk e) (hx:∀e∈exts,XOk e):EnvOk Tryz.prog (env cons exts hints M) I gl:=by
 refine⟨tyOk,fun f fn hf=>⟨hf,?_⟩,fun f c fn hl hf=>?_,hk,mixed,fun f x hl=>?_,fun f fn hf=>List.all_eq_true.1 rounds_ok fn (by have hf':Tryz.prog.funcs[f]? = some fn:=hf;rw[←Array.getElem?_toList] at hf';exact List.mem_of_getElem? hf'),fun f x hl=>?_,fun m p hp y w=>?_⟩
 ·have h:=List.all_eq_true.1 names fn (by have hf':Tryz.prog.funcs[f]? = some fn:=hf;rw[←Array.getElem?_toList] at hf';exact List.mem_of_getElem? hf')
  simpa using h
 ·unfold env look at hl
  simp only at hl
  split at hl
  ·rename_i e he
   simp only[Option.some.injEq] at hl
   subst hl
   have h1:e.1=f:=by simpa using List.find?_some he
   subst h1
   exact hc e (List.mem_of_find?_eq_some he) fn hf
  ·simp at hl
 ·unfold env look at hl
  simp only at hl
  split at hl
  ·rename_i e he
   simp only[Option.some.injEq] at hl
   subst hl
   have h1:e.1=f:=by simpa using List.find?_some he
   subst h1
   exact hx e (List.mem_of_find?_eq_some he)
  ·simp at hl
 ·unfold env look at hl
  simp only at hl
  split at hl
  ·rename_i e he
   simp only[Option.some.injEq] at hl
   subst hl
   have h1:e.1=f:=by simpa using List.find?_some he
   subst h1
   exact prims_ok e (List.mem_of_find?_eq_some he)
  ·simp at hl
 ·exact meths_ok m p hp y w
theorem mkC {f dp:Nat} (fn:Func) (κs:List K) (ts:List Nat) {run:List D→Option D} {p:Bool} {cons:List (Nat×Con)} {exts:List (Nat×Ext)} {hints:List (Nat×Nat×Hint)} {M:Nat} {T:Tbl}
  (hf:Tryz.prog.funcs[f]? = some fn) (hs:fn.params.toList.map ty=κs) (hr:fn.resultTypes.toList=ts) (hp:(!p||ts.all fun t=>K.flat ty 20 (ty t))=true) (hc:∀e∈cons,ConOk e) (hx:∀e∈exts,XOk e) (hT:AllOk (env cons exts hints M) T)
  (h:∀a:Args κs,callS (env cons exts hints M) T dp (.fn f) (List.zipWith V.d κs (Args.ds κs a)) [] (fun v H=>finish ty ts v H)=run (Args.ds κs a)):ConOk (f,{ run:=run,plain:=p }):=by
 intro fn' hfn
 obtain rfl:fn=fn':=Option.some.inj (hf.symm.trans hfn)
 exact okC hgl hs hr hp (envOk hc hx) rfl rfl hT h
theorem mkF {f dp:Nat} (fn:Func) (κs:List K) (ts:List Nat) {run:List D→Option D} {cons:List (Nat×Con)} {exts:List (Nat×Ext)} {hints:List (Nat×Nat×Hint)} {M:Nat} {T:Tbl}
  (hf:Tryz.prog.funcs[f]? = some fn) (hs:fn.params.toList.map ty=κs) (hr:fn.resultTypes.toList=ts) (hc:∀e∈cons,ConOk e) (hx:∀e∈exts,XOk e) (hT:AllOk (env cons exts hints M) T)
  (h:∀a:Args κs,callS (env cons exts hints M) T dp (.fn f) (List.zipWith V.d κs (Args.ds κs a)) [] (fun v H=>finishFresh ty ts v H)=run (Args.ds κs a)):ConOk (f,{ run:=run,fresh:=true }):=by
 intro fn' hfn
 obtain rfl:fn=fn':=Option.some.inj (hf.symm.trans hfn)
 exact okF hgl hs hr (envOk hc hx) rfl rfl hT h
theorem fun261:Tryz.prog.funcs[261]? = some Tryz.f261:=by kernel_rfl
theorem decode_ok:ConOk (261,decodeC):=by
 intro fn hfn
 obtain rfl:Tryz.f261=fn:=Option.some.inj (fun261.symm.trans hfn)
 exact decodeC_ok (ρ:=Tryz.lays197_ren) Tryz.lays197 (fun _ h=>h) (t5:=Tryz.f261.resultTypes[0]!) (t3:=Tryz.f261.resultTypes[1]!) (by kernel_rfl) (by kernel_rfl) (by kernel_rfl) (by kernel_rfl)
theorem insert_ok:XOk (246,insertX 9):=insertX_ok (ρ:=Tryz.lays22_ren) tyOk Tryz.lays22 (by kernel_rfl) (by kernel_rfl)
theorem bldLies (r:Nat) (h:(List.range 387).all (fun t=>!(decide (ty t = .struct [111,108]))||liesAt Tryz.prog Tryz.prog.depth t (2 / Tryz.prog.cellsOf t) 0 r 1)=true):∀t,ty t = .struct [111,108]→liesAt Tryz.prog Tryz.prog.depth t (2 / Tryz.prog.cellsOf t) 0 r 1=true:=by
 intro t ht
 have hl:t<387:=by
  rcases Nat.lt_or_ge t 387 with h | h
  ·exact h
  ·have h0:ty t = .bad:=by
    unfold ty
    rw[List.getD_eq_getElem?_getD,List.getElem?_eq_none (by rw[show tys.length=387 by kernel_rfl];exact h)];rfl
   rw[h0] at ht;simp at ht
 have:=List.all_eq_true.1 h t (List.mem_range.2 hl)
 simpa[ht] using this
theorem bldTy (ρ:Go.Shelf.Ren) (h:ρ.t 72=113):BldTy Tryz.prog ty ρ (.struct [111,108]) 113 5:=⟨by kernel_rfl,rfl,by kernel_rfl,by kernel_rfl,by rw[h];exact bldLies 113 (by kernel_rfl)⟩
theorem copyCheck_ok:XOk (109,copyCheckX (.struct [111,108]) 5):=copyCheckX_ok (ρ:=Tryz.lays240_ren) tyOk Tryz.lays240 Tryz.X72_240 (bldTy _ rfl)
theorem string_ok:XOk (62,stringX (.struct [111,108])):=stringX_ok (ρ:=Tryz.lays169_ren) tyOk Tryz.lays169 Tryz.Builder_Extra_169 (bldTy _ rfl)
end Go.AM.SY
