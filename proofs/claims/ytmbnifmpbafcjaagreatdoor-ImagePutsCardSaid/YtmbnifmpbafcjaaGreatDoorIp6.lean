/- Part 6 of the proof: the abstract machine, what the functions compute, and plain laws over that. -/
import Derived.Test.YtmbnifmpbafcjaaGreatDoorIp5
set_option linter.all false
set_option linter.unusedSimpArgs false
set_option linter.unusedVariables false
set_option linter.unusedSectionVars false
namespace Go.AM
open Go Go.RowKit
section
variable {P:Program} {X:List Nat} {B0:Nat} {w0:World}
variable {R:Type} {E:Env} {I:World→Prop} {gl:Nat}
def QA (Q:Exit→Act→World→Prop):AExit→Act→World→Prop
 | .normal=>Q .normal
 | .ret=>Q .ret
 | .exit id=>Q (.exit id)
theorem boxP_cases (r:Nat):boxP r=[]∨∃c,boxP r=[c]:=by
 simp only[boxP,boxQ,Bool.cond_eq_ite]
 repeat' split
 all_goals first | exact .inl rfl | exact .inr ⟨_,rfl⟩
theorem HOk.movek {w:World} {cd:Cd} {ty:Nat→K} {sz:Nat→Nat} {μ:List Loc} {H:List AObj} (h:HOk ty sz cd X B0 w0 μ H w) {b:Nat} {l:Loc} {o:AObj} (hμ:μ[b]? = some l) (hH:H[b]? = some o) :
  HOk ty sz cd X B0 w0 (μ++[l]) (H.set b .dead++[o]) w∧Fut X B0 μ.length μ H w (μ++[l]) (H.set b .dead++[o]) w:=by
 have hb:b<μ.length:=(List.getElem?_eq_some_iff.1 hμ).1
 have hlen:(H.set b .dead).length=μ.length:=by rw[List.length_set,h.len]
 have hget:∀(i:Nat) l' o',(μ++[l])[i]? = some l'→(H.set b .dead++[o])[i]? = some o'→(i=b∧o' = .dead)∨(i≠b∧μ[if i=μ.length then b else i]? = some l'∧H[if i=μ.length then b else i]? = some o'):=by
  intro i l' o' h1 h2
  by_cases hib:i=b
  ·subst hib
   rw[List.getElem?_append_left (by omega),List.getElem?_set_self (by rw[←h.len];exact hb)] at h2
   simp only[Option.some.injEq] at h2
   exact .inl ⟨rfl,h2.symm⟩
  ·refine .inr ⟨hib,?_⟩
   by_cases hin:i=μ.length
   ·subst hin
    rw[if_pos rfl]
    rw[List.getElem?_concat_length] at h1
    rw[List.getElem?_append_right (by omega),hlen,Nat.sub_self] at h2
    simp only[List.getElem?_cons_zero,Option.some.injEq] at h1 h2
    subst h1 h2
    exact⟨hμ,hH⟩
   ·rw[if_neg hin]
    have hi:i<μ.length:=by
     have:=(List.getElem?_eq_some_iff.1 h1).1
     simp at this
     omega
    rw[List.getElem?_append_left hi] at h1
    rw[List.getElem?_append_left (by omega),List.getElem?_set_ne (fun e=>hib e.symm)] at h2
    exact⟨h1,h2⟩
 have hO:∀i c,Own (μ++[l]) (H.set b .dead++[o]) i c→i≠b∧Own μ H (if i=μ.length then b else i) c:=by
  rintro i c ⟨l',o',h1,h2,h3⟩
  rcases hget i l' o' h1 h2 with ⟨_,rfl⟩ | ⟨h4,h5,h6⟩
  ·simp[ownB] at h3
  ·exact⟨h4,l',o',h5,h6,h3⟩
 have hU:∀i c,Uses (μ++[l]) (H.set b .dead++[o]) i c→i≠b∧Uses μ H (if i=μ.length then b else i) c:=by
  rintro i c ⟨l',o',h1,h2,h3⟩
  rcases hget i l' o' h1 h2 with ⟨_,rfl⟩ | ⟨h4,h5,h6⟩
  ·simp[usesB] at h3
  ·exact⟨h4,l',o',h5,h6,h3⟩
 have hle:(memOf w (X++owned μ H)).le (memOf w (X++owned (μ++[l]) (H.set b .dead++[o]))):=memOf_leX (fun _ _ _=>rfl) (fun c hc=>.inl (by
  obtain⟨j,hj⟩:=mem_owned.1 hc
  exact mem_owned.2 ⟨_,(hO j c hj).2⟩))
 refine⟨⟨by simp[h.len],?_,fun i j c h1 h2=>?_,fun i c h1=>h.low _ c (hU i c h1).2,h.resv,h.below,h.size⟩,⟨fun i hi=>List.getElem?_append_left hi,by simp,hle,Below.refl _ _,fun _ h=>h⟩⟩
 ·intro i l' o' h1 h2
  rcases hget i l' o' h1 h2 with ⟨_,rfl⟩ | ⟨h4,h5,h6⟩
  ·trivial
  ·exact ObjOk.mono hle prefix_get (fun _ _=>rfl) (h.obj _ l' o' h5 h6)
 ·obtain⟨a1,a2⟩:=hO i c h1
  obtain⟨b1,b2⟩:=hU j c h2
  have:=h.inj _ _ c a2 b2
  by_cases hi:i=μ.length<;>by_cases hj:j=μ.length
  ·omega
  ·rw[if_pos hi,if_neg hj] at this;exact absurd this.symm b1
  ·rw[if_neg hi,if_pos hj] at this;exact absurd this a1
  ·rwa [if_neg hi,if_neg hj] at this
theorem rowify_ok (SZ:SzOk E.ty P.cellsOf) {w:World} {base:Nat} {tmps:Array Value}:∀(l:List (Nat×Nat)) {μ:List Loc} {H:List AObj} {regs regs':List V} {H':List AObj} {tg tg':List (Nat×Nat)},HOk E.ty P.cellsOf E.rnd X B0 w0 μ H w→Regs P E.ty (M_ X μ H w) μ regs tmps→base≤μ.length →
  rowify E.ty l regs H tg=some (regs',H',tg')→∃μ',HOk E.ty P.cellsOf E.rnd X B0 w0 μ' H' w∧Regs P E.ty (M_ X μ' H' w) μ' regs' tmps∧Fut X B0 base μ H w μ' H' w∧μ.length≤μ'.length
 | [],μ,H,regs,regs',H',tg,tg',h,hr,hb,he=>by
  simp only[rowify,Option.some.injEq,Prod.mk.injEq] at he
  obtain⟨rfl,rfl,rfl⟩:=he
  exact⟨μ,h,hr,⟨fun _ _=>rfl,hb,Mem.le_refl _,Below.refl _ _,fun _ h=>h⟩,Nat.le_refl _⟩
 | (r,e)::l,μ,H,regs,regs',H',tg,tg',h,hr,hb,he=>by
  simp only[rowify] at he
  cases hbx:decide (r<BOXES) with
  | true=>
   rw[hbx] at he
   simp only[cond_true] at he
   split at he
   ·rename_i κ hreg
    split at he
    ·rename_i hc
     obtain⟨rfl,hok⟩:=hc
     have hne:E.ty e≠.bad:=by intro hb;rw[hb] at hok;simp[K.ok] at hok
     have hrr:=hr.get r
     rw[hreg] at hrr
     replace hrr:=hrr.resolve_left (by simp)
     obtain⟨κ0,hrr⟩:=hrr
     simp only[RV] at hrr
     obtain⟨rfl,hrr⟩:=hrr
     simp only[Rep] at hrr
     obtain⟨e1,ad,cap,h1,hx,_,hnn,hnil,_⟩:=hrr
     have had:ad=none:=by cases ad with | none=>rfl | some _=>simp at hnn
     subst had
     have hcap0:=hnil rfl
     subst hcap0
     obtain⟨g1,g2,g3⟩:=newVirt h (Below.refl _ _) hne none
     have hlt:r<tmps.size:=by
      rcases Nat.lt_or_ge r tmps.size with h | h
      ·exact h
      ·rw[Array.getD_eq_getD_getElem?,Array.getElem?_eq_none h] at hx
       simp[Go.undef] at hx
     have hr2:Regs P E.ty (M_ X (μ++[⟨0,0,0,.array 0 e,true,false⟩]) (H++[.row e true false []]) w) (μ++[⟨0,0,0,.array 0 e,true,false⟩]) (regs.set r (.sref H.length 0 0)) tmps:=by
      refine⟨by simp[hr.len],fun i=>?_⟩
      rw[getD_set]
      split
      ·rename_i hi
       obtain⟨rfl,_⟩:=hi
       have hx':tmps.getD r Go.undef = .slice none 0 0:=hx
       rw[hx'];exact g3
      ·exact RR.mono _ _ g2.mem (g2.keeps (Nat.le_refl _)) (hr.get i)
     obtain⟨μ',k1,k2,k3,k4⟩:=rowify_ok SZ (base:=base) l g1 hr2 (by simp;omega) he
     exact⟨μ',k1,k2,Fut.trans (Nat.le_refl _) ⟨fun i hi=>g2.loc i (by omega),by simp;omega,g2.mem,g2.below,g2.dfr⟩ k3,Nat.le_trans (by simp) k4⟩
    ·simp at he
   ·exact rowify_ok SZ l h hr hb he
   ·simp at he
  | false=>
   rw[hbx] at he
   simp only[cond_false] at he
   split at he
   ·rename_i κ0 v hH
    have hpo:(boxP r).all (fun c=>Nat.blt c (κ0.kids E.ty).length)=true→pathOk E.ty κ0 (boxP r):=by
     intro hpb
     have:=boxP_cases r
     rcases this with h | ⟨c,h⟩
     ·rw[h];trivial
     ·rw[h] at hpb ⊢
      simp only[List.all_cons,List.all_nil,Bool.and_true,Nat.blt_eq] at hpb
      exact⟨hpb,trivial⟩
    split at he
    ·rename_i κ hget
     generalize rowE e=e at he
     split at he
     ·rename_i hc
      obtain⟨rfl,hok,hpb⟩:=hc
      replace hpo:=hpo hpb
      split at he
      ·rename_i v' hput
       have hne:E.ty e≠.bad:=by intro hb;rw[hb] at hok;simp[K.ok] at hok
       obtain⟨g1,g2,g3⟩:=newVirt h (Below.refl _ _) hne none
       simp only[Option.isSome_none] at g1 g2 g3
       obtain⟨l0,hl0⟩:=h.loc hH
       have hi0:=(List.getElem?_eq_some_iff.1 hH).1
       have hH':(H++[.row e true false []])[boxN r]? = some (.var κ0 v):=by rw[List.getElem?_append_left hi0];exact hH
       have hl0':(μ++[⟨0,0,0,.array 0 e,true,false⟩])[boxN r]? = some l0:=prefix_get _ _ hl0
       have hobj:=g1.obj _ l0 _ hl0' hH'
       simp only[ObjOk] at hobj
       obtain⟨b1,b2,b3,b4,cs,et,x,b5,b6,b7,b8⟩:=hobj
       obtain⟨c1,y,c2,q1,q2,q3,q4⟩:=RV.get SZ b6 b4 hpo hget
       simp only[RV] at q4
       obtain⟨q5,q4⟩:=q4
       rw[←q5] at q4
       simp only[Rep] at q4
       obtain⟨e1,ad,cap,h1,hx,_,hnn,hnil,_⟩:=q4
       have had:ad=none:=by cases ad with | none=>rfl | some _=>simp at hnn
       subst had
       have hcap0:=hnil rfl
       subst hcap0
       have hx':y = .slice none 0 0:=hx
       have hz:RV E.ty P.cellsOf (M_ X (μ++[⟨0,0,0,.array 0 e,true,false⟩]) (H++[.row e true false []]) w) (μ++[⟨0,0,0,.array 0 e,true,false⟩]) (.sref H.length 0 0) (.slice e) (.slice none 0 0):=by
        have:=g3.resolve_left (by simp)
        obtain⟨κ1,g3'⟩:=this
        simp only[RV] at g3' ⊢
        obtain⟨l1,n1,e2,d1,d2,d3,d4⟩:=g3'
        refine⟨l1,n1,e2,d1,d2,?_,d4⟩
        rw[←h.len] at d1
        simp only[List.getElem?_concat_length,Option.some.injEq] at d1
        subst d1
        simp only[K.array.injEq] at d2
        rw[d2.2]
       obtain⟨k1,y0,k2,x',r1,r2,r3,r4,r5⟩:=RV.put SZ b6 b4 hpo q3 (by rw[←q5];exact hz) hput
       have hsame:x'.cells=cs:=by
        have e1:c1++y.cells.toList++c2=k1++y0++k2:=by rw[←q1,←r1]
        rw[List.append_assoc,List.append_assoc] at e1
        obtain⟨e2,e3⟩:=List.append_inj e1 (by rw[q2,r3])
        obtain⟨e4,e5⟩:=List.append_inj e3 (by rw[hx',r2])
        rw[←b7]
        apply Array.toList_inj.1
        rw[r5,r1,←e4,hx']
       obtain⟨m1,m2⟩:=g1.reobj (o':=.var κ0 v') hl0' hH' rfl rfl (by
        simp only[ObjOk]
        exact⟨b1,b2,b3,b4,cs,et,x',b5,r4,hsame,b8⟩)
       have hset:(H++[AObj.row e true false []]).set (boxN r) (.var κ0 v')=H.set (boxN r) (.var κ0 v')++[.row e true false []]:=by
        rw[List.set_append_left _ _ hi0]
       rw[hset] at m1 m2
       have hr1:=hr.mono g2.mem (μ':=μ++[⟨0,0,0,.array 0 e,true,false⟩]) prefix_get
       have hr2:=hr1.mono m2.mem (fun _ _ h=>h)
       obtain⟨μ',k1,k2,k3,k4⟩:=rowify_ok SZ (base:=base) l m1 hr2 (by simp;omega) he
       have g2':Fut X B0 base μ H w (μ++[⟨0,0,0,.array 0 e,true,false⟩]) (H++[.row e true false []]) w:=⟨fun i hi=>g2.loc i (by omega),by simp;omega,g2.mem,g2.below,g2.dfr⟩
       exact⟨μ',k1,k2,Fut.trans (Nat.le_refl _) (Fut.trans (by simp;omega) g2' m2) k3,Nat.le_trans (by simp) k4⟩
      ·simp at he
     ·exact rowify_ok SZ l h hr hb he
    ·rename_i b off n hget
     rw[Bool.cond_eq_ite] at he
     split at he
     case isFalse=>exact rowify_ok SZ l h hr hb he
     rw[Bool.cond_eq_ite] at he
     split at he
     case isFalse=>exact rowify_ok SZ l h hr hb he
     split at he
     case h_2=>exact rowify_ok SZ l h hr hb he
     rename_i e1 own nn ds hHb
     split at he
     case isFalse=>simp at he
     rename_i hpb
     replace hpo:=hpo hpb
     split at he
     case h_2=>simp at he
     rename_i v' hput
     obtain⟨lb,hlb⟩:=h.loc hHb
     obtain⟨g1,g2⟩:=h.movek hlb hHb
     obtain⟨l0,hl0⟩:=h.loc hH
     have hi0:=(List.getElem?_eq_some_iff.1 hH).1
     have hnb:b≠boxN r:=by rintro rfl;rw[hH] at hHb;simp at hHb
     have hH':(H.set b .dead++[.row e1 own nn ds])[boxN r]? = some (.var κ0 v):=by
      rw[List.getElem?_append_left (by simpa using hi0),List.getElem?_set_ne hnb];exact hH
     have hl0':(μ++[lb])[boxN r]? = some l0:=prefix_get _ _ hl0
     have hobj:=g1.obj _ l0 _ hl0' hH'
     simp only[ObjOk] at hobj
     obtain⟨b1,b2,b3,b4,cs,et,x,b5,b6,b7,b8⟩:=hobj
     obtain⟨c1,y,c2,q1,q2,q3,q4⟩:=RV.get SZ b6 b4 hpo hget
     have hz:=RV.ren (i:=b) (j:=H.length) (Mem.le_refl _) _ _ _ (fun c hc l1 hl1=>by
      simp only[V.refs,List.mem_singleton] at hc
      subst hc
      have e1:renN c H.length c=H.length:=by simp[renN]
      rw[e1,←h.len,List.getElem?_concat_length]
      have:(μ++[lb])[c]? = some lb:=prefix_get _ _ hlb
      rw[this] at hl1
      exact hl1) q4
     have hrn:(V.sref b off n).ren b H.length = .sref H.length off n:=by simp[V.ren]
     rw[hrn] at hz
     obtain⟨k1,y0,k2,x',r1,r2,r3,r4,r5⟩:=RV.put SZ b6 b4 hpo q3 hz hput
     have hsame:x'.cells=cs:=by
      have e1:c1++y.cells.toList++c2=k1++y0++k2:=by rw[←q1,←r1]
      rw[List.append_assoc,List.append_assoc] at e1
      obtain⟨e2,e3⟩:=List.append_inj e1 (by rw[q2,r3])
      obtain⟨e4,e5⟩:=List.append_inj e3 (by rw[r2])
      rw[←b7]
      apply Array.toList_inj.1
      rw[r5,r1,←e4]
     obtain⟨m1,m2⟩:=g1.reobj (o':=.var κ0 v') hl0' hH' rfl rfl (by
      simp only[ObjOk]
      exact⟨b1,b2,b3,b4,cs,et,x',b5,r4,hsame,b8⟩)
     have hr1:=hr.mono g2.mem (μ':=μ++[lb]) prefix_get
     have hr2:=hr1.mono m2.mem (fun _ _ h=>h)
     obtain⟨μ',k1,k2,k3,k4⟩:=rowify_ok SZ (base:=base) l m1 hr2 (by simp;omega) he
     have g2':Fut X B0 base μ H w (μ++[lb]) (H.set b .dead++[.row e1 own nn ds]) w:=⟨fun i hi=>g2.loc i (by omega),by simp;omega,g2.mem,g2.below,g2.dfr⟩
     exact⟨μ',k1,k2,Fut.trans (Nat.le_refl _) (Fut.trans (by simp;omega) g2' m2) k3,Nat.le_trans (by simp) k4⟩
    ·exact rowify_ok SZ l h hr hb he
   ·exact rowify_ok SZ l h hr hb he
theorem loopN_ok {Z:Pz R} {ro:Option Nat} {n0:Dp} {c:Code} {Q:Exit→Act→World→Prop} {r:R} {base:Nat} {μs:List Loc} {Hs:List AObj} {ws:World} {head:List V→List AObj→Option (List V×List AObj)}
  {body:List V→List AObj→(AExit→List V→List AObj→Option R)→Option R} {k:AExit→List V→List AObj→Option R}
  (hhead:∀(regs:List V) (H:List AObj) (μ:List Loc) (a:Act) (w:World) (regs':List V) (H':List AObj),head regs H=some (regs',H')→HOk E.ty P.cellsOf E.rnd X B0 w0 μ H w→Regs P E.ty (M_ X μ H w) μ regs a.tmps→base≤μ.length →
   ∃μ',HOk E.ty P.cellsOf E.rnd X B0 w0 μ' H' w∧Regs P E.ty (M_ X μ' H' w) μ' regs' a.tmps∧Fut X B0 base μ H w μ' H' w)
  (hbody:∀(regs:List V) (H:List AObj) (k':AExit→List V→List AObj→Option R) (μ:List Loc) (a:Act) (w:World) (Q':Exit→Act→World→Prop),(∀ch a' w',Z.PQ r ch w'→(n0.nd=true→a'.defers=n0.tl)→Q' (.panic ch) a' w')→Z.at base μ→body regs H k'=some r→HOk E.ty P.cellsOf E.rnd X B0 w0 μ H w→Regs P E.ty (M_ X μ H w) μ regs a.tmps→Defs n0 a w→base≤μ.length →
   (∀e regs' H' μ' a' w',k' e regs' H'=some r→HOk E.ty P.cellsOf E.rnd X B0 w0 μ' H' w'→Regs P E.ty (M_ X μ' H' w') μ' regs' a'.tmps→Defs n0 a' w'→Fut X B0 base μ H w μ' H' w'→QA Q' e a' w')→c.wpIn (Fr ro) 0 P Q' a w)
  (hz:Z.at base μs) (hq:∀ch a' w',Z.PQ r ch w'→(n0.nd=true→a'.defers=n0.tl)→Q (.panic ch) a' w')
  (hk:∀e regs' H' μ' a' w',k e regs' H'=some r→HOk E.ty P.cellsOf E.rnd X B0 w0 μ' H' w'→Regs P E.ty (M_ X μ' H' w') μ' regs' a'.tmps→Defs n0 a' w'→Fut X B0 base μs Hs ws μ' H' w'→QA Q e a' w') :
  ∀(n:Nat) (regs:List V) (H:List AObj) (μ:List Loc) (a:Act) (w:World),loopN head body n regs H k=some r→HOk E.ty P.cellsOf E.rnd X B0 w0 μ H w→Regs P E.ty (M_ X μ H w) μ regs a.tmps→Defs n0 a w→base≤μ.length→Fut X B0 base μs Hs ws μ H w→Code.roundsIn (Fr ro) 0 P c Q n a w
 | 0,regs,H,μ,a,w,he,_,_,_,_,_=>by simp[loopN] at he
 | n+1,regs,H,μ,a,w,he,h,hr,hd,hb,F=>by
  simp only[loopN] at he
  split at he
  ·rename_i regs1 H1 hh
   obtain⟨μ1,g1,g2,g3⟩:=hhead regs H μ a w regs1 H1 hh h hr hb
   rw[roundsIn_succ]
   refine hbody regs1 H1 _ μ1 a w _ hq ((hz.next F (Nat.le_refl _)).next g3 (Nat.le_refl _)) he g1 g2 (hd.next g3 rfl) g3.len (fun e regs' H' μ' a' w' hk' h' hr' hd' F'=>?_)
   have F2:=Fut.trans (Nat.le_refl _) (Fut.trans (Nat.le_refl _) F g3) F'
   cases e with
   | normal=>exact loopN_ok hhead hbody hz hq hk n regs' H' μ' a' w' hk' h' hr' hd' F'.len F2
   | ret=>exact hk .ret regs' H' μ' a' w' hk' h' hr' hd' F2
   | exit id=>exact hk (.exit id) regs' H' μ' a' w' hk' h' hr' hd' F2
  ·simp at he
variable (EO:EnvOk P E I gl) (hI:I w0) (hgl:gl≤B0)
include EO hI hgl
theorem ev_ok {Z:Pz R} {inl:Tgt→List V→List AObj→(V→List AObj→Option R)→Option R} (IN:InlOk P E X B0 w0 Z inl) {rd:Bool} {ro:Option Nat} {n0:Dp} (hrd:rd=false→ro=none∧n0.nd=false∧∀r ch w,¬Z.PQ r ch w) {f base:Nat} {r:R} :
  ∀(c:Code) (_:Found E f c) (regs:List V) (H:List AObj) (k:AExit→List V→List AObj→Option R) (μ:List Loc) (a:Act) (w:World) (Q:Exit→Act→World→Prop),(∀ch a' w',Z.PQ r ch w'→(n0.nd=true→a'.defers=n0.tl)→Q (.panic ch) a' w')→Z.at base μ→ev rd E inl f base c regs H k=some r→HOk E.ty P.cellsOf E.rnd X B0 w0 μ H w→Regs P E.ty (M_ X μ H w) μ regs a.tmps→Defs n0 a w→base≤μ.length →
   (∀e regs' H' μ' a' w',k e regs' H'=some r→HOk E.ty P.cellsOf E.rnd X B0 w0 μ' H' w'→Regs P E.ty (M_ X μ' H' w') μ' regs' a'.tmps→Defs n0 a' w'→Fut X B0 base μ H w μ' H' w'→QA Q e a' w')→c.wpIn (Fr ro) 0 P Q a w:=by
 intro c
 induction c with
 | skip=>intro hF regs H k μ a w Q hq hz he h hr hd hb hk;exact wpIn_skip (hk .normal regs H μ a w he h hr hd ⟨fun _ _=>rfl,hb,Mem.le_refl _,Below.refl _ _,fun _ h=>h⟩)
 | label l=>intro hF regs H k μ a w Q hq hz he h hr hd hb hk;exact wpIn_label (hk .normal regs H μ a w he h hr hd ⟨fun _ _=>rfl,hb,Mem.le_refl _,Below.refl _ _,fun _ h=>h⟩)
 | ret=>intro hF regs H k μ a w Q hq hz he h hr hd hb hk;exact wpIn_ret (hk .ret regs H μ a w he h hr hd ⟨fun _ _=>rfl,hb,Mem.le_refl _,Below.refl _ _,fun _ h=>h⟩)
 | exit id=>intro hF regs H k μ a w Q hq hz he h hr hd hb hk;exact wpIn_exit (hk (.exit id) regs H μ a w he h hr hd ⟨fun _ _=>rfl,hb,Mem.le_refl _,Below.refl _ _,fun _ h=>h⟩)
 | seq x y ihx ihy=>
  intro hF regs H k μ a w Q hq hz he h hr hd hb hk
  refine wpIn_seq (ihx (fun x hx=>hF x (List.mem_append_left _ hx)) regs H _ μ a w _ hq hz he h hr hd hb (fun e regs' H' μ' a' w' hk' h' hr' hd' F'=>?_))
  cases e with
  | normal=>exact ihy (fun x hx=>hF x (List.mem_append_right _ hx)) regs' H' k μ' a' w' Q hq (hz.next F' (Nat.le_refl _)) hk' h' hr' hd' F'.len (fun e r2 H2 μ2 a2 w2 k2 h2 hr2 hd2 F2=>hk e r2 H2 μ2 a2 w2 k2 h2 hr2 hd2 (Fut.trans (Nat.le_refl _) F' F2))
  | ret=>exact hk .ret regs' H' μ' a' w' hk' h' hr' hd' F'
  | exit id=>exact hk (.exit id) regs' H' μ' a' w' hk' h' hr' hd' F'
 | cond c x y ihx ihy=>
  intro hF regs H k μ a w Q hq hz he h hr hd hb hk
  simp only[ev] at he
  split at he
  ·rename_i d hc
   have hv:=val_ok hr .bool c
   rw[hc] at hv
   replace hv:=hv.resolve_left (by simp)
   obtain⟨κ,hv⟩:=hv
   simp only[RV] at hv
   obtain⟨rfl,hv⟩:=hv
   have hx:=rep_bool hv
   split at he
   ·rename_i hb'
    exact wpIn_cond_true (by rw[hx,hb']) (ihx (fun x hx=>hF x (List.mem_append_left _ hx)) regs H k μ a w Q hq hz he h hr hd hb hk)
   ·rename_i hb'
    exact wpIn_cond_false (by rw[hx,hb']) (ihy (fun x hx=>hF x (List.mem_append_right _ hx)) regs H k μ a w Q hq hz he h hr hd hb hk)
  ·simp at he
 | block id c ih=>
  intro hF regs H k μ a w Q hq hz he h hr hd hb hk
  refine wpIn_block (ih hF regs H _ μ a w _ hq hz he h hr hd hb (fun e regs' H' μ' a' w' hk' h' hr' hd' F'=>?_))
  cases e with
  | normal=>exact hk .normal regs' H' μ' a' w' hk' h' hr' hd' F'
  | ret=>exact hk .ret regs' H' μ' a' w' hk' h' hr' hd' F'
  | exit id'=>
   simp only[QA,Exit.inBlock]
   cases hid:(id'==id) with
   | true=>
    simp only[hid,cond_true] at hk'
    rw[if_pos (by simpa using hid)]
    exact hk .normal regs' H' μ' a' w' hk' h' hr' hd' F'
   | false=>
    simp only[hid,cond_false] at hk'
    rw[if_neg (by simpa using hid)]
    exact hk (.exit id') regs' H' μ' a' w' hk' h' hr' hd' F'
 | loop c ih=>
  intro hF regs H k μ a w Q hq hz he h hr hd hb hk
  simp only[ev] at he
  split at he
  ·rename_i regs1 H1 tg hrow
   obtain⟨μ1,g1,g2,g3,g4⟩:=rowify_ok EO.ty.szOk (base:=base) _ h hr hb hrow
   split at he
   ·rename_i n hn
    refine wpIn_loop_rounds n (loopN_ok (Z:=Z) (ro:=ro) (n0:=n0) (P:=P) (X:=X) (B0:=B0) (w0:=w0) (E:=E) (base:=base) (μs:=μ) (Hs:=H) (ws:=w) ?_ ?_ hz (fun ch a' w' h1 h2=>hq ch a' w' h1 h2) hk n regs1 H1 μ1 a w he g1 g2 (hd.next g3 rfl) (by omega) g3)
    ·intro regs2 H2 μ2 a2 w2 regs3 H3 hh h2 hr2 hb2
     simp only[Option.some.injEq,Prod.mk.injEq] at hh
     obtain⟨rfl,rfl⟩:=hh
     exact⟨μ2,h2,hr2,⟨fun _ _=>rfl,hb2,Mem.le_refl _,Below.refl _ _,fun _ h=>h⟩⟩
    ·intro regs2 H2 k' μ2 a2 w2 Q' hq2 hz2 hb2 h2 hr2 hd2 hbl2 hk2
     refine ih hF regs2 H2 _ μ2 a2 w2 Q' hq2 hz2 hb2 h2 hr2 hd2 hbl2 (fun e regs' H' μ' a' w' he' h' hr' hd' F'=>?_)
     have hko:∀out,Regs P E.ty (M_ X μ' H' w') μ' (keepO out regs') a'.tmps:=fun out=>by
      cases out with
      | none=>exact hr'
      | some l=>exact keep_ok l hr'
     cases e with
     | normal=>exact hk2 .normal regs' H' μ' a' w' he' h' hr' hd' F'
     | ret=>exact hk2 .ret _ H' μ' a' w' he' h' (hko _) hd' F'
     | exit id=>exact hk2 (.exit id) _ H' μ' a' w' he' h' (hko _) hd' F'
   ·refine wpIn_loop_rounds E.fuel (loopN_ok (Z:=Z) (ro:=ro) (n0:=n0) (P:=P) (X:=X) (B0:=B0) (w0:=w0) (E:=E) (base:=base) (μs:=μ) (Hs:=H) (ws:=w) ?_ ?_ hz (fun ch a' w' h1 h2=>hq ch a' w' h1 h2) hk E.fuel regs1 H1 μ1 a w he g1 g2 (hd.next g3 rfl) (by omega) g3)
    ·intro regs2 H2 μ2 a2 w2 regs3 H3 hh h2 hr2 hb2
     exact headSt_ok h2 hr2 hb2 (by rw[←g1.len];omega) hh
    ·intro regs2 H2 k' μ2 a2 w2 Q' hq2 hz2 hb2 h2 hr2 hd2 hbl2 hk2
     refine ih hF regs2 H2 _ μ2 a2 w2 Q' hq2 hz2 hb2 h2 hr2 hd2 hbl2 (fun e regs' H' μ' a' w' he' h' hr' hd' F'=>?_)
     have hko:∀out,Regs P E.ty (M_ X μ' H' w') μ' (keepO out regs') a'.tmps:=fun out=>by
      cases out with
      | none=>exact hr'
      | some l=>exact keep_ok l hr'
     cases e with
     | normal=>exact hk2 .normal regs' H' μ' a' w' he' h' hr' hd' F'
     | ret=>exact hk2 .ret _ H' μ' a' w' he' h' (hko _) hd' F'
     | exit id=>exact hk2 (.exit id) _ H' μ' a' w' he' h' (hko _) hd' F'
  ·simp at he
 | region id ops draw=>
  intro hF regs H k μ a w Q hq hz he h hr hd hb hk
  cases draw with
  | true=>
   simp only[ev,Bool.cond_eq_ite] at he
   split at he
   ·rename_i hD
    exact draw_ok EO hI hgl IN hD he h hr hd hb hz hq (hk .normal)
   ·simp at he
  | false=>
   simp only[ev] at he
   refine wpIn_region ?_
   have:=evOps_ok EO hI hgl IN (ro:=ro) (n0:=n0) (ops:=ops) (Q:=Q) (base:=base) (μs:=μ) (Hs:=H) (ws:=w) hz hq (hk .normal) ops.toList [] regs H μ a w (by simp) he h hr hd ⟨fun _ _=>rfl,hb,Mem.le_refl _,Below.refl _ _,fun _ h=>h⟩
   simpa[List.range_eq_range'] using this
 | rangeFunc g ps asg body _ _=>
  intro hF regs H k μ a w Q hq hz he h hr hd hb hk
  simp only[ev] at he
  cases hrd':rd with
  | true=>rw[hrd'] at he;simp at he
  | false=>
   rw[hrd'] at he
   simp only[cond_false] at he
   obtain⟨hro,hnd,hnp⟩:=hrd hrd'
   subst hro
   split at he
   ·rename_i gf cs hvf
    by_cases hgf:hasBody E gf=true
    case neg=>rw[if_neg hgf] at he;simp at he
    rw[if_pos hgf] at he
    obtain⟨xs,ys,hx,hxs,hys⟩:=vFunc_ok (val_ok hr .func g) hvf
    have hxs0:xs = #[]:=by simp only[RVt] at hxs;exact Array.toList_inj.1 hxs
    subst hxs0
    refine wpIn_rangeFunc ?_
    intro fn _
    obtain⟨rec,hrec⟩:∃rec:Loop,rec = { state:=.ready,pending:=none,fn,tmps:=a.tmps,params:=ps,assign:=asg,body,defers:=w.heap.size }:=⟨_,rfl⟩
    obtain⟨W1,hW1⟩:∃W1,(w.alloc (.deferred (some []))).alloc (.loop rec)=W1:=⟨_,rfl⟩
    have hL1:W1.heap[w.heap.size+1]? = some (.loop rec):=by
     rw[←hW1];have:=World.alloc_heap_new (w.alloc (.deferred (some []))) (.loop rec);rwa [World.size_alloc] at this
    have hK1:W1.heap[w.heap.size]? = some (.deferred (some [])):=by
     rw[←hW1];exact(Below.heap_alloc _ _ _ (by simp)).trans (World.alloc_heap_new w _)
    have hs1:W1.heap.size=w.heap.size+2:=by rw[←hW1];simp
    have hbel:Below w.heap.size w W1:=by
     rw[←hW1]
     exact((Below.refl _ w).alloc (Nat.le_refl _) _).alloc (by simp) _
    obtain⟨lc,hlc⟩:∃lc:Loc,lc=⟨w.heap.size+1,0,0,.bad,false,false⟩:=⟨_,rfl⟩
    have hlcb:lc.blk=w.heap.size+1:=by rw[hlc]
    obtain⟨g1,g2⟩:=HOk.newAt h (l:=lc) (o:=.loop .ready f (firstRegion body) (.tup (keep (E.hint f (firstRegion body)).live 0 regs))) hbel
     (fun b hb=>by simp only[usesB,hlc,Option.some.injEq] at hb;omega) (fun M' hM=>by
      simp only[ObjOk]
      refine⟨rec,by rw[hlcb];exact hL1,by rw[hrec];exact⟨rfl,rfl⟩,by rw[hrec];exact hF (firstRegion body,ps.toList,asg,body) (List.mem_cons_self ..),?_⟩
      rw[hrec]
      simp only[RV]
      exact⟨trivial,_,rfl,RVt.mono _ _ hM prefix_get _ _ (regs_rvt (keep_ok _ hr))⟩)
    have hmem:=g2.mem
    have hyield:RVt E.ty P.cellsOf (M_ X (μ++[lc]) (H++[.loop .ready f (firstRegion body) (.tup (keep (E.hint f (firstRegion body)).live 0 regs))]) W1) (μ++[lc]) (.yield H.length::cs) (.func (.yield (w.heap.size+1)) #[] #[]::ys.toList):=by
     simp only[RVt]
     refine⟨_,_,rfl,.inr ⟨.func,?_⟩,RVt.mono _ _ hmem prefix_get _ _ hys⟩
     simp only[RV]
     refine⟨trivial,lc,?_,by rw[hlc],by rw[hlcb]⟩
     rw[←h.len];simp
    have hcall:=IN (.fn gf) _ _ _ r _ W1 _ (fun x w₃=>rangePost Fence.wide 0 P (w.heap.size+1) Q { a with defers:={ target:=.collected w.heap.size,args:=#[] }::a.defers } (.returned x) w₃) he g1 hyield (by
     have:=(hz.next g2 (Nat.le_trans hb (Nat.le_refl _))).to
     exact this) ?_
    ·refine⟨w.heap.size+1,[{ target:=.collected w.heap.size,args:=#[] }],W1,{ target:=.fn (.func gf) ys,args:=#[.func (.yield (w.heap.size+1)) #[] #[]] },W1,gf,
      #[.func (.yield (w.heap.size+1)) #[] #[]]++ys,W1,?_,?_,fun _ _=>trivial,?_,fun h=>by simp[Fence.wide] at h,?_⟩
     ·rw[←hW1,hrec];exact run_enterLoop_outer _ _ _ _ _
     ·simp only[resolve,Deferred.ofValue,hx]
      simp[run_bind,run_pure,go_sem]
     ·unfold hasBody at hgf
      split at hgf
      ·rename_i fn' hfn'
       obtain⟨h1,h2⟩:=EO.fn gf fn' hfn'
       have hb':fn'.body.isNone=false:=by cases h:fn'.body<;>simp_all
       simp only[run_bind,run_pure,invoke,callFunc,program,Sem.run,h1,h2,hb',Bool.false_eq_true,if_false]
      ·simp at hgf
     ·simp only at hcall
      have:(Value.func (.yield (w.heap.size+1)) #[] #[]::ys.toList).toArray = #[.func (.yield (w.heap.size+1)) #[] #[]]++ys:=by apply Array.toList_inj.1;simp
      rw[this] at hcall
      refine callsIn_Fr (hcall.mono ?_)
      rintro e w' (⟨x,rfl,hx⟩ | ⟨ch,_,hx⟩)
      ·exact hx
      ·exact(hnp _ _ _ hx).elim
    ·intro v H' μ' w' x hk' hv h' F'
     have hbl:H.length<(μ++[lc]).length:=by simp[h.len]
     have hμb:μ'[H.length]? = some lc:=by
      rw[F'.loc _ hbl,←h.len];simp
     split at hk'
     ·rename_i st f' id' u' hHb
      have hobj:=h'.obj _ lc _ hμb hHb
      simp only[ObjOk] at hobj
      obtain⟨q,q1,q2,_⟩:=hobj
      rw[hlcb] at q1
      obtain⟨k1,k2⟩:=h'.forget hμb hHb
      have hnu:∀i,¬Uses μ' (H'.set H.length .dead) i (w.heap.size+1):=by
       intro i hi
       have hi':=uses_set_sub hμb hHb (fun b hb=>by simp[usesB] at hb) i _ hi
       have:=h'.inj H.length i (w.heap.size+1) ⟨lc,_,hμb,hHb,by simp[ownB,hlcb]⟩ hi'
       subst this
       obtain⟨l2,o2,a1,a2,a3⟩:=hi
       rw[List.getElem?_set_self (h'.lt hμb)] at a2
       simp only[Option.some.injEq] at a2
       subst a2
       simp[usesB] at a3
      have hB:B0≤w.heap.size+1:=by have:=h.size;omega
      obtain⟨m1,m2,m3,m4⟩:=k1.other (y:=.loop { q with state:=.exhausted }) hB q1 rfl rfl hnu
      have Fall:Fut X B0 base μ H w μ' (H'.set H.length .dead) (w'.putObj (w.heap.size+1) (.loop { q with state:=.exhausted })):=by
       have hml:μ.length≤μ'.length:=by have:=F'.len;simp at this;omega
       have F1:=Fut.trans hml (Fut.trans (by simp) g2 F') k2
       refine⟨fun i hi=>F1.loc i (by omega),by have:=F1.len;have:=k2.len;have:=F'.len;simp at this;omega,Mem.le_trans F1.mem m2,F1.below.trans m3,fun b hb'=>?_⟩
       rw[m4 b (fun hbe=>by subst hbe;have:=lt_of_block hb';omega)]
       exact F1.dfr b hb'
      have hD':(w'.putObj (w.heap.size+1) (.loop { q with state:=.exhausted })).heap[w.heap.size]? = some (.deferred (some [])):=by
       rw[m4 _ (by omega)]
       exact F'.dfr _ hK1
      have hdefs:Defs n0 { a with defers:={ target:=.collected w.heap.size,args:=#[] }::a.defers } (w'.putObj (w.heap.size+1) (.loop { q with state:=.exhausted })):=by
       obtain⟨d0,bs,d1,d2,d3,d4⟩:=hd
       refine⟨Nat.le_trans d0 Fall.below.size,w.heap.size::bs,by simp[d1],List.nodup_cons.2 ⟨fun hm=>?_,d2⟩,fun b hb'=>?_,fun hn=>?_⟩
       ·have:=lt_of_block (d3 _ hm).2;omega
       ·rcases List.mem_cons.1 hb' with rfl | hb'
        ·exact⟨d0,hD'⟩
        ·exact⟨(d3 b hb').1,Fall.dfr b (d3 b hb').2⟩
       ·rw[hnd] at hn;cases hn
      have hregs:=hr.mono Fall.mem (fun i l hl=>by rw[F'.loc i (by have:=(List.getElem?_eq_some_iff.1 hl).1;simp;omega)];exact prefix_get i l hl)
      simp only[rangePost]
      cases st with
      | ready=>
       obtain⟨q2,q3⟩:=q2
       refine⟨none,_,?_,hk .normal _ _ μ' _ _ hk' m1 hregs hdefs Fall⟩
       rw[←q3];exact run_endLoop q1 (by rw[q2];simp)
      | busy=>simp at hk'
      | ret=>
       obtain⟨q2,q3⟩:=q2
       refine⟨some .ret,_,?_,wpIn_ret (hk .ret _ _ μ' _ _ hk' m1 hregs hdefs Fall)⟩
       rw[←q3];exact run_endLoop q1 (by rw[q2];simp)
      | exit id=>
       obtain⟨q2,q3⟩:=q2
       refine⟨some (.exit id),_,?_,wpIn_exit (hk (.exit id) _ _ μ' _ _ hk' m1 hregs hdefs Fall)⟩
       rw[←q3];exact run_endLoop q1 (by rw[q2];simp)
     ·simp at hk'
   ·simp at he
 | scope c _=>intro hF regs H k μ a w Q hq hz he;simp[ev] at he
 | goto l=>intro hF regs H k μ a w Q hq hz he;simp[ev] at he
 | refuse s=>intro hF regs H k μ a w Q hq hz he;simp[ev] at he
end
end Go.AM
namespace Go.AM
open Go Go.RowKit
section
variable {P:Program} {X:List Nat} {B0:Nat} {w0:World}
variable {R:Type} {E:Env} {I:World→Prop} {gl:Nat}
theorem resVals_ok (T:TyOk P E.ty) {μ:List Loc} {H:List AObj} {w:World} {regs:List V} {tmps:Array Value} (h:HOk E.ty P.cellsOf E.rnd X B0 w0 μ H w) (hr:Regs P E.ty (M_ X μ H w) μ regs tmps) :
  ∀(l:List ResultVar) (vs:List V),resVals E regs H l=some vs→∃xs:List Value,(l.mapM (m:=Sem) fun | .tmp t=>pure (tmps.getD t Go.undef) | .cell a t=>do loadVar t (←asAddr (tmps.getD a Go.undef))).run P w = .ok xs w∧RVt E.ty P.cellsOf (M_ X μ H w) μ vs xs
 | [],vs,he=>by
  simp only[resVals,Option.some.injEq] at he;subst he
  exact⟨[],by simp[run_pure],by simp[RVt]⟩
 | .tmp t::l,vs,he=>by
  simp only[resVals] at he
  split at he
  ·rename_i vs' hvs
   simp only[Option.some.injEq] at he;subst he
   obtain⟨xs,h1,h2⟩:=resVals_ok T h hr l vs' hvs
   refine⟨tmps.getD t Go.undef::xs,?_,?_⟩
   ·rw[List.mapM_cons]
    simp only[run_bind,run_pure,h1]
   ·simp only[RVt];exact⟨_,_,rfl,hr.get t,h2⟩
  ·simp at he
 | .cell c t::l,vs,he=>by
  simp only[resVals] at he
  split at he
  ·rename_i b p κ hreg
   split at he
   ·rename_i hκ
    split at he
    ·rename_i κ1 v hH
     split at he
     ·rename_i v' hget
      split at he
      ·rename_i vs' hvs
       simp only[Option.some.injEq] at he;subst he
       obtain⟨xs,h1,h2⟩:=resVals_ok T h hr l vs' hvs
       have hv:=hr.get c
       rw[hreg] at hv
       replace hv:=hv.resolve_left (by simp)
       obtain⟨κ0,hv⟩:=hv
       simp only[RV] at hv
       obtain⟨_,lc,hμ,hvirt,hpo,hpk,hx⟩:=hv
       have hobj:=h.obj b lc _ hμ hH
       simp only[ObjOk] at hobj
       obtain⟨_,hb0,hk1,hkb,cs,et,x0,hblk,hrv,hcells,_⟩:=hobj
       rw[hk1] at hpo hpk hx
       obtain⟨c1,y,c2,e1,e2,e3,e4⟩:=RV.get T.szOk hrv hkb hpo hget
       rw[hpk,hκ] at e3 e4
       refine⟨y::xs,?_,?_⟩
       ·rw[List.mapM_cons]
        have hadr:asAddr (tmps.getD c Go.undef)=(pure ⟨lc.blk,lc.base+(pathOff E.ty P.cellsOf κ1 p).1,none⟩:Sem Addr):=by rw[hx];rfl
        have hload:(loadVar t ⟨lc.blk,lc.base+(pathOff E.ty P.cellsOf κ1 p).1,none⟩).run P w = .ok y w:=
         run_load_ok T e4 e3 rfl (fun j v hj=>by
          have:=block_cells hblk (c1:=c1) (by rw[←hcells];exact e1) j v hj
          simpa[hb0,e2] using this)
        simp only[hadr,run_bind,run_pure,hload,h1]
       ·simp only[RVt];exact⟨_,_,rfl,.inr ⟨_,e4⟩,h2⟩
      ·simp at he
     ·simp at he
    ·rename_i e own nn ds hH
     split at he
     ·rename_i vs' hvs
      simp only[Option.some.injEq] at he;subst he
      obtain⟨xs,h1,h2⟩:=resVals_ok T h hr l vs' hvs
      have hv:=hr.get c
      rw[hreg] at hv
      replace hv:=hv.resolve_left (by simp)
      obtain⟨κ0,hv⟩:=hv
      simp only[RV] at hv
      obtain⟨_,lc,hμ,hvirt,hpo,hpk,hx⟩:=hv
      have hobj:=h.obj b lc _ hμ hH
      have hk1:lc.κ = .array ds.length e:=by simp only[ObjOk] at hobj;exact hobj.1
      obtain⟨_,_,cs,et,fz,pre,mid,post,hblk,hcs,hpre,hrep,_,_⟩:=row_cells hobj hvirt
      rw[hk1] at hpo hpk hx
      obtain⟨c1,y,c2,e1,e2,e3⟩:=Rep.get T.szOk hrep hpo
      rw[hpk] at e3
      have e4:RV E.ty P.cellsOf (M_ X μ H w) μ (.d κ ((D.agg ds).get p)) (E.ty t) y:=by simp only[RV];rw[←hκ];exact⟨rfl,e3⟩
      refine⟨y::xs,?_,?_⟩
      ·rw[List.mapM_cons]
       have hadr:asAddr (tmps.getD c Go.undef)=(pure ⟨lc.blk,lc.base+(pathOff E.ty P.cellsOf (.array ds.length e) p).1,none⟩:Sem Addr):=by rw[hx];rfl
       have hload:(loadVar t ⟨lc.blk,lc.base+(pathOff E.ty P.cellsOf (.array ds.length e) p).1,none⟩).run P w = .ok y w:=
        run_load_ok T e4 (fun hb=>Rep.notBad (hb▸hκ▸e3)) rfl (fun j v hj=>by
         have:=block_cells hblk (c1:=pre++c1) (y:=y.cells.toList) (c2:=c2++post) (by
          rw[hcs];simp only[cells_agg] at e1;rw[e1];simp) j v hj
         simpa[hpre,e2] using this)
       simp only[hadr,run_bind,run_pure,hload,h1]
      ·simp only[RVt];exact⟨_,_,rfl,.inr ⟨_,e4⟩,h2⟩
     ·simp at he
    ·simp at he
   ·simp at he
  ·simp at he
theorem oneOf_ok {ty:Nat→K} {sz:Nat→Nat} {M:Mem} {μ:List Loc} {vs:List V} {xs:List Value} (h:RVt ty sz M μ vs xs):RR ty sz M μ (oneOf vs) (if h:xs.toArray.size=1 then xs.toArray[0] else .tuple xs.toArray):=by
 cases vs with
 | nil=>simp only[RVt] at h;subst h;exact .inr ⟨.bad,by simp[oneOf,RV,RVt]⟩
 | cons v vs=>
  have hh:=h
  simp only[RVt] at h
  obtain⟨x,rest,rfl,h1,h2⟩:=h
  cases vs with
  | nil=>simp only[RVt] at h2;subst h2;simpa[oneOf,RR] using h1
  | cons v' vs=>
   have h2':=h2
   simp only[RVt] at h2
   obtain⟨x',rest',rfl,h3,h4⟩:=h2
   rw[dif_neg (by simp)]
   exact .inr ⟨.bad,by simp only[oneOf,RV];exact⟨trivial,_,rfl,hh⟩⟩
variable (EO:EnvOk P E I gl) (hI:I w0) (hgl:gl≤B0)
include EO hI hgl
theorem round_ok {Z:Pz D} (hZ:E.rd0=false→∀r ch w,¬Z.PQ r ch w) {n:Nat} (IN:InlOk P E X B0 w0 Z (call E n)) {b:Nat} {args:List V} {H:List AObj} {k:V→List AObj→Option D} {r:D} {μ:List Loc} {w:World} {xs:List Value} {Post:Value→World→Prop} {l:Loc} (hz:Z.at μ.length μ)
  (he:call E (n+1) (.yield b) args H k=some r) (h:HOk E.ty P.cellsOf E.rnd X B0 w0 μ H w) (hargs:RVt E.ty P.cellsOf (M_ X μ H w) μ args xs) (hμ:μ[b]? = some l)
  (hk:∀v H' μ' w' x,k v H'=some r→RR E.ty P.cellsOf (M_ X μ' H' w') μ' v x→HOk E.ty P.cellsOf E.rnd X B0 w0 μ' H' w'→Fut X B0 μ.length μ H w μ' H' w'→Post x w') :
  YieldAt Fence.wide 0 P l.blk xs.toArray w fun e w'=>∃x,e = .returned x∧Post x w':=by
 simp only[call] at he
 cases hrd0:E.rd0 with
 | true=>rw[hrd0] at he;simp at he
 | false=>
 have hnp:=hZ hrd0
 rw[hrd0] at he
 simp only[cond_false] at he
 split at he
 ·rename_i f id regs hHb
  split at he
  ·rename_i ps asg body hrnd
   split at he
   case isFalse=>simp at he
   rename_i hlen
   obtain⟨hFa,hFb⟩:=found_round EO.rounds hrnd
   have hobj:=h.obj b l _ hμ hHb
   simp only[ObjOk] at hobj
   obtain⟨q,q1,⟨q2,q2'⟩,q3,q6⟩:=hobj
   rw[hrnd] at q3
   simp only[Option.some.injEq,Prod.mk.injEq] at q3
   obtain⟨q3,q4,q5⟩:=q3
   replace q3:=q3.symm
   replace q4:=q4.symm
   replace q5:=q5.symm
   simp only[RV] at q6
   obtain⟨_,tm,q6,q7⟩:=q6
   simp only[Value.tuple.injEq] at q6
   subst q6
   have hal:args.length=xs.length:=by
    clear he hk hlen
    induction args generalizing xs with
    | nil=>simp only[RVt] at hargs;simp[hargs]
    | cons a as1 ih=>simp only[RVt] at hargs;obtain⟨x,rest,rfl,_,h2⟩:=hargs;simp[ih h2]
   have hsz:xs.toArray.size=q.params.size:=by
    have:q.params.toList.length=ps.length:=by rw[q3]
    simp at this ⊢
    omega
   have hregs:=setPs_ok ps args xs regs q.tmps hlen.symm hargs (rvt_regs q7)
   have htm:(q.params.zip xs.toArray).foldl (fun tmps (t,a)=>tmps.setIfInBounds t a) q.tmps=(ps.zip xs).foldl (fun t (p:Nat×Value)=>t.setIfInBounds p.1 p.2) q.tmps:=by
    rw[←Array.foldl_toList,Array.toList_zip,q3]
   refine⟨q.fn,_,q.assign,q.body,run_yield q1 hsz,?_⟩
   rw[htm,q4,q5]
   refine roundIn_of_wpIn trivial ?_
   have hn0:Defs ⟨w.heap.size,[],false⟩ ({ tmps:=(ps.zip xs).foldl (fun t (p:Nat×Value)=>t.setIfInBounds p.1 p.2) q.tmps,defers:=[] }:Act) w:=Defs.nil rfl
   refine ev_ok EO hI hgl IN (rd:=true) (ro:=some l.blk) (by simp) (n0:=⟨w.heap.size,[],false⟩) asg hFa _ H _ μ _ w _ (fun ch a' w' hc=>(hnp _ _ _ hc).elim) (by rw[←h.len];exact hz) he h hregs hn0 (by rw[h.len];exact Nat.le_refl _) (fun e regs1 H1 μ1 a1 w1 hk1 h1 hr1 hd1 F1=>?_)
   rw[←h.len] at F1
   have hμ1:μ1[b]? = some l:=by rw[F1.loc b (List.getElem?_eq_some_iff.1 hμ).1];exact hμ
   cases e with
   | normal=>
    simp only[Bool.cond_eq_ite] at hk1
    split at hk1
    ·rename_i hl1
     have hH1:∃f1 id1 u1,H1[b]? = some (.loop .ready f1 id1 u1):=by
      unfold isLoop at hl1
      split at hl1
      ·rename_i e1;exact⟨_,_,_,e1⟩
      ·simp at hl1
      ·simp at hl1
     obtain⟨f1,id1,u1,hH1⟩:=hH1
     simp only[setLoop,hH1] at hk1
     have hobj1:=h1.obj b l _ hμ1 hH1
     simp only[ObjOk] at hobj1
     obtain⟨r1,s1,⟨s2,s2'⟩,_⟩:=hobj1
     obtain⟨g1,g2⟩:=h1.record (st':=.busy) (r':={ r1 with state:=.busy }) hμ1 hH1 s1 rfl rfl rfl rfl rfl
     refine⟨_,run_beginRound s1 s2,?_⟩
     refine ev_ok EO hI hgl IN (rd:=true) (ro:=some l.blk) (by simp) (n0:=⟨w.heap.size,[],false⟩) body hFb _ _ _ μ1 _ _ _ (fun ch a' w' hc=>(hnp _ _ _ hc).elim) (by rw[←h.len];exact hz.next F1 (Nat.le_refl _)) hk1 g1 (hr1.mono g2.mem (fun _ _ h=>h)) (hd1.next g2 rfl) (by have:=F1.len;rw[h.len] at this;exact this) (fun e regs3 H3 μ3 a3 w3 hk3 h3 hr3 hd3 F3=>?_)
     rw[←h.len] at F3
     have hμ3:μ3[b]? = some l:=by rw[F3.loc b (List.getElem?_eq_some_iff.1 hμ).1];exact hμ1
     split at hk3
     ·rename_i hl3
      have hH3:∃f1 id1 u1,H3[b]? = some (.loop .busy f1 id1 u1):=by
       unfold isLoop at hl3
       split at hl3
       ·simp at hl3
       ·rename_i e1;exact⟨_,_,_,e1⟩
       ·simp at hl3
      obtain⟨f3,id3,u3,hH3⟩:=hH3
      have hobj3:=h3.obj b l _ hμ3 hH3
      simp only[ObjOk] at hobj3
      obtain⟨r3,v1,v2,_⟩:=hobj3
      have hfin:∀(st:LSt) (jump:Option Code) (bo:Bool),(bo=jump.isNone)→st.of { r3 with state:=if jump.isNone then .ready else .done,pending:=jump }→(match setLoop st b H3 with | some H4=>k (.d .bool (.bool bo)) H4 | none=>none)=some r →
        ∃v w',(Instr.endRound l.blk jump).run P w3 = .ok v w'∧∃x,Ending.returned v = .returned x∧Post x w':=by
       intro st jump bo hbo hst hk4
       simp only[setLoop,hH3] at hk4
       obtain⟨m1,m2⟩:=h3.record (st':=st) (r':={ r3 with state:=if jump.isNone then .ready else .done,pending:=jump }) hμ3 hH3 v1 rfl rfl rfl rfl hst
       refine⟨_,_,run_endRound jump v1,_,rfl,?_⟩
       subst hbo
       have hml1:μ.length≤μ1.length:=F1.len
       have hml3:μ.length≤μ3.length:=F3.len
       exact hk _ _ μ3 _ _ hk4 (.inr ⟨.bool,by simp[RV,Rep]⟩) m1 (Fut.trans hml3 (Fut.trans (Nat.le_refl _) (Fut.trans hml1 F1 g2) F3) m2)
      cases e with
      | normal=>exact hfin .ready none true rfl ⟨rfl,rfl⟩ hk3
      | ret=>exact hfin .ret (some .ret) false rfl ⟨rfl,rfl⟩ hk3
      | exit id=>exact hfin (.exit id) (some (.exit id)) false rfl ⟨rfl,rfl⟩ hk3
     ·simp at hk3
    ·simp at hk1
   | ret=>simp at hk1
   | exit id=>simp at hk1
  ·simp at he
 ·simp at he
def PanOk (P:Program) (E:Env) (X:List Nat) (B0:Nat) (w0:World) (Z:Pz D):Prop:=
 (E.pan=none→∀r ch w,¬Z.PQ r ch w) ∧
 ∀p,E.pan=some p→∀v H r μ w x,p v H=some r→HOk E.ty P.cellsOf E.rnd X B0 w0 μ H w→RR E.ty P.cellsOf (M_ X μ H w) μ v x→Z.at μ.length μ→Z.PQ r [{ v:=x,recovered:=false }] w
omit EO hI hgl in
theorem noPan_ok (h:E.pan=none):PanOk P E X B0 w0 noPan:=⟨fun _ _ _ _ h=>h,fun p hp=>by rw[h] at hp;cases hp⟩
omit EO hI hgl in
theorem isIf_ok {ty:Nat→K} {sz:Nat→Nat} {M:Mem} {μ:List Loc} {v:V} {x:Value} (h:RR ty sz M μ v x) (hv:isIf v=true):∃t y,x = .iface t y:=by
 replace h:=h.resolve_left (by rintro rfl;simp[isIf] at hv)
 obtain⟨κ,h⟩:=h
 unfold isIf at hv
 split at hv
 ·simp only[RV,Rep] at h
  obtain⟨_,_,_,y,rfl,_⟩:=h
  exact⟨_,y,rfl⟩
 ·simp only[RV] at h
  obtain⟨_,_,y,rfl,_⟩:=h
  exact⟨_,y,rfl⟩
 ·simp at hv
theorem call_ok {Z:Pz D} (hZ:PanOk P E X B0 w0 Z):∀n:Nat,InlOk P E X B0 w0 Z (call E n)
 | 0=>by intro g args H k r μ w xs Post he;simp[call] at he
 | n+1=>by
  intro tg args H k r μ w xs Post he h hargs hz hk
  cases tg with
  | panic=>
   simp only[call] at he
   split at he
   ·rename_i p hp
    split at he
    ·rename_i v
     cases hi:isIf v with
     | false=>rw[hi] at he;simp at he
     | true=>
      rw[hi] at he
      simp only[cond_true] at he
      rintro x rfl
      simp only[RVt] at hargs
      obtain⟨x',rest,e,hv,_⟩:=hargs
      obtain⟨rfl,rfl⟩:x=x'∧[]=rest:=by simpa using e
      exact⟨isIf_ok hv hi,hZ.2 p hp v H r μ w x he h hv hz⟩
    ·simp at he
   ·simp at he
  | yield b=>
   intro l hμ
   exact round_ok EO hI hgl (fun h0=>hZ.1 (by simpa[Env.rd0] using h0)) (call_ok hZ n) hz he h hargs hμ hk
  | fn g=>
  simp only[call] at he
  split at he
  ·rename_i x hx
   split at he
   ·rename_i cc v H' hxe
    cases cc with
    | false=>simp at he
    | true=>
    simp only[cond_true] at he
    refine(EO.ext g x hx E.rnd X B0 w0 μ H w args v H' xs (EO.keep w0 w (h.below.mono hgl) hI) hgl h hargs hxe).mono ?_
    rintro e w' ⟨y,μ',rfl,h1,h2,h3⟩
    exact .inl ⟨y,rfl,hk v H' μ' w' y he h2 h1 h3⟩
   ·simp at he
  split at he
  ·rename_i fn hfn
   split at he
   ·rename_i c hbody
    obtain⟨hf,_⟩:=EO.fn g fn hfn
    refine callsIn_wide.1 (callsIn_of_wp_marks (F:=Fence.wide) (n:=0) hf hbody trivial ?_)
    have hlen:args.length=xs.length:=by
     clear he hk
     induction args generalizing xs with
     | nil=>simp only[RVt] at hargs;simp[hargs]
     | cons a as1 ih=>simp only[RVt] at hargs;obtain⟨x,rest,rfl,_,h2⟩:=hargs;simp[ih rest h2]
    have hregs:Regs P E.ty (M_ X μ H w) μ (args++List.replicate (fn.ntmps-args.length) .undef) (xs.toArray++Array.replicate (fn.ntmps-xs.toArray.size) Go.undef):=by
     refine⟨by simp[hlen],fun i=>?_⟩
     by_cases hi:i<args.length
     ·obtain⟨x,hx,hrr⟩:=RVt.at hargs (List.getElem?_eq_getElem hi)
      have e1:(args++List.replicate (fn.ntmps-args.length) V.undef).getD i .undef=args[i]:=by
       rw[List.getD_eq_getElem?_getD,List.getElem?_append_left hi,List.getElem?_eq_getElem hi];rfl
      have e2:(xs.toArray++Array.replicate (fn.ntmps-xs.toArray.size) Go.undef).getD i Go.undef=x:=by
       rw[Array.getD_eq_getD_getElem?,Array.getElem?_append_left (by simp;omega)]
       simp[hx]
      rw[e1,e2];exact hrr
     ·left
      rw[List.getD_eq_getElem?_getD,List.getElem?_append_right (by omega),List.getElem?_replicate]
      split<;>rfl
    refine ev_ok EO hI hgl (call_ok hZ n) (ro:=none) (n0:=⟨w.heap.size,[],E.rd0⟩) (fun h0=>⟨rfl,h0,hZ.1 (by simpa[Env.rd0] using h0)⟩) c (found_body hfn hbody (EO.rounds g fn hfn)) _ H _ μ _ w _ (fun ch a' w' hc hd'=>?_) (by rw[←h.len];exact hz) he h hregs (Defs.nil rfl) (by rw[h.len];exact Nat.le_refl _) (fun e regs' H' μ' a' w' hk' h' hr' hd' F'=>?_)
    case refine_1=>
     cases hrd:E.rd0 with
     | false=>exact(hZ.1 (by simpa[Env.rd0] using hrd) _ _ _ hc).elim
     | true=>
      have:=hd' hrd
      simp only[bodyPostM]
      rw[this]
      exact .inr ⟨ch,rfl,hc⟩
    have hfin:(match resVals E regs' H' fn.results.toList with | some vs=>k (oneOf vs) H' | none=>none)=some r →
      LeavesInM Fence.wide 0 P fn a'.tmps (fun e w'=>(∃x,e = .returned x∧Post x w')∨∃ch,e = .panicked ch∧Z.PQ r ch w') a'.defers .returning w':=by
     intro hk'
     split at hk'
     ·rename_i vs hvs
      obtain⟨d0,bs,d1,d2,d3,d4⟩:=hd'
      rw[d1]
      simp only[List.append_nil]
      refine leaves_ok h.size bs w' h' d2 d3 (fun w'' h'' hm'' hb'' hk''=>?_)
      obtain⟨xs',h1,h2⟩:=resVals_ok EO.ty h'' (hr'.mono hm'' (fun _ _ h=>h)) _ vs hvs
      have hres:(results fn a'.tmps).run P w'' = .ok (if h:xs'.toArray.size=1 then xs'.toArray[0] else .tuple xs'.toArray) w'':=by
       simp only[results]
       rw[Array.mapM_eq_mapM_toList]
       rw[map_eq_pure_bind]
       simp only[run_bind]
       erw [h1]
       rfl
      refine⟨_,hres,.inl ⟨_,rfl,?_⟩⟩
      refine hk _ H' μ' w'' _ hk' (oneOf_ok h2) h'' ?_
      rw[h.len]
      exact⟨F'.loc,F'.len,Mem.le_trans F'.mem hm'',F'.below.trans hb'',fun b hb=>by rw[hk'' b (lt_of_block hb)];exact F'.dfr b hb⟩
     ·simp at hk'
    cases e with
    | normal=>exact hfin hk'
    | ret=>exact hfin hk'
    | exit id=>simp at hk'
   ·simp at he
  ·simp at he
end
end Go.AM
namespace Go.AM
open Go Go.RowKit
mutual
def D.noMem:D→Bool
 | .agg ds=>D.noMems ds
 | .slice _ ds=>ds.isEmpty
 | .iface _ x=>D.noMem x
 | .tup ds=>D.noMems ds
 | _=>true
def D.noMems:List D→Bool
 | []=>true
 | d::ds=>D.noMem d&&D.noMems ds
end
section
variable {P:Program} {ty:Nat→K} {cd:Cd}
mutual
theorem noMem_rep {M M':Mem}:∀(d:D) (κ:K) (v:Value),d.noMem=true→Rep ty M d κ v→Rep ty M' d κ v
 | .bool _,_,_,_,k=>k
 | .int _ _,_,_,_,k=>k
 | .str _,_,_,_,k=>k
 | .agg ds,κ,v,h,k=>by
  simp only[D.noMem] at h
  simp only[Rep] at k ⊢
  obtain⟨a,cs,b,c⟩:=k
  exact⟨a,cs,b,noMems_rep ds _ _ h c⟩
 | .slice nn ds,κ,v,h,k=>by
  have h0:ds=[]:=by simpa[D.noMem] using h
  subst h0
  simp only[Rep] at k ⊢
  obtain⟨e,a,cap,h1,h2,h3,h4,h5,_⟩:=k
  exact⟨e,a,cap,h1,h2,h3,h4,h5,.inl trivial⟩
 | .iface t x,κ,v,h,k=>by
  simp only[D.noMem] at h
  simp only[Rep] at k ⊢
  obtain⟨a,b,y,e,c⟩:=k
  exact⟨a,b,y,e,noMem_rep x _ _ h c⟩
 | .nilIface,_,_,_,k=>k
 | .fn _,_,_,_,k=>k
 | .nilFunc,_,_,_,k=>k
 | .nilPtr,_,_,_,k=>k
 | .nilMap,_,_,_,k=>k
 | .tup _,_,_,_,k=>k
theorem noMems_rep {M M':Mem}:∀(ds:List D) (κs:List K) (cs:List Value),D.noMems ds=true→Reps ty M ds κs cs→Reps ty M' ds κs cs
 | [],_,_,_,k=>k
 | d::ds,κs,cs,h,k=>by
  simp only[D.noMems,Bool.and_eq_true] at h
  simp only[Reps] at k ⊢
  obtain⟨κ,κs',x,rest,a,b,c,e⟩:=k
  exact⟨κ,κs',x,rest,a,b,noMem_rep d _ _ h.1 c,noMems_rep ds _ _ h.2 e⟩
end
theorem noMem_each {M M':Mem}:∀(ds:List D) (κs:List K) (xs:List Value),D.noMems ds=true→Each ty M ds κs xs→Each ty M' ds κs xs
 | [],_,_,_,k=>k
 | d::ds,κs,cs,h,k=>by
  simp only[D.noMems,Bool.and_eq_true] at h
  simp only[Each] at k ⊢
  obtain⟨κ,κs',x,rest,a,b,c,e⟩:=k
  exact⟨κ,κs',x,rest,a,b,noMem_rep d _ _ h.1 c,noMem_each ds _ _ h.2 e⟩
theorem noMem_res {M M':Mem} {ts:List Nat} {r:D} {v:Value} (h:r.noMem=true) (k:ResRep ty M ts r v):ResRep ty M' ts r v:=by
 unfold ResRep at k ⊢
 split at k
 ·exact noMem_rep _ _ _ h k
 ·obtain⟨ds,xs,rfl,rfl,hE⟩:=k
  exact⟨ds,xs,rfl,rfl,noMem_each _ _ _ (by simpa only[D.noMem] using h) hE⟩
theorem finish_ok (T:TyOk P ty) {X:List Nat} {B0:Nat} {w0 w:World} {μ:List Loc} {H:List AObj} (h:HOk ty P.cellsOf cd X B0 w0 μ H w) {u:V} {x:Value} {ts:List Nat} {r:D} (hr:RR ty P.cellsOf (M_ X μ H w) μ u x) (hf:finish ty ts u H=some r) :
  ResRep ty (memOf w X) ts r x:=by
 have hPM:PM X false w μ H=memOf w X:=by simp[PM]
 unfold finish at hf
 unfold ResRep
 split at hf
 ·rename_i t
  cases hk:kindIs ty H u (ty t) with
  | false=>rw[hk] at hf;simp at hf
  | true=>
   rw[hk] at hf
   simp only[cond_true] at hf
   have hx:=kindIs_ok h hr hk
   have:=pure_ok T h (st:=false) PM_le _ _ _ _ hx (kindIs_good hk hx) hf
   rw[hPM] at this
   exact this
 ·rename_i tsx hne
  split
  ·exact absurd rfl (hne _)
  split at hf
  ·rename_i vs
   cases hk:allKinds ty H vs ts with
   | false=>rw[hk] at hf;simp at hf
   | true=>
    rw[hk] at hf
    simp only[cond_true] at hf
    split at hf
    ·rename_i ds hds
     simp only[Option.some.injEq] at hf
     subst hf
     replace hr:=hr.resolve_left (by simp)
     obtain⟨κ,hr⟩:=hr
     simp only[RV] at hr
     obtain⟨_,xs,hx,hr⟩:=hr
     have:=pureEach_ok T h (st:=false) PM_le _ _ _ _ hr hk hds
     rw[hPM] at this
     exact⟨ds,xs,rfl,hx,this⟩
    ·simp at hf
  ·simp at hf
theorem RVt.of_each {M:Mem} {sz:Nat→Nat} {μ:List Loc}:∀{ds:List D} {κs:List K} {xs:List Value},Each ty M ds κs xs→RVt ty sz M μ (List.zipWith V.d κs ds) xs
 | [],κs,xs,h=>by simp only[Each] at h;obtain⟨rfl,rfl⟩:=h;simp[RVt]
 | d::ds,κs,xs,h=>by
  simp only[Each] at h
  obtain⟨κ,κs',x,rest,rfl,rfl,h1,h2⟩:=h
  simp only[List.zipWith_cons_cons,RVt]
  exact⟨x,rest,rfl,.inr ⟨κ,by simp only[RV];exact⟨trivial,h1⟩⟩,RVt.of_each h2⟩
theorem start_ok {X:List Nat} {w:World} (hX:∀b∈X,b<w.heap.size):HOk ty P.cellsOf cd X w.heap.size w [] [] w:=by
 refine⟨rfl,?_,?_,?_,hX,Below.refl _ _,Nat.le_refl _⟩
 ·intro i l o h;simp at h
 ·rintro i j b ⟨l,o,h,_⟩;simp at h
 ·rintro i b ⟨l,o,h,_⟩;simp at h
variable {E:Env} {I:World→Prop} {gl:Nat}
theorem contract_of_run (EO:EnvOk P E I gl) (hpan:E.pan=none) (hgl:∀w,I w→gl≤w.heap.size) {depth f:Nat} {fn:Func} {c:Con}
  (hfresh:c.fresh=false) (hrun:∀ds r,c.run ds=some r→run E depth f (fn.params.toList.map E.ty) fn.resultTypes.toList ds=some r)
  (hplain:c.plain=true→∀ds r,c.run ds=some r→r.noMem=true):Contract P E.ty I f fn c:=by
 intro X w ds xs r hIw hX hE hr
 have hcall:=call_ok (X:=X) (B0:=w.heap.size) (w0:=w) (Z:=noPan) EO hIw (hgl w hIw) (noPan_ok hpan) depth (.fn f) (List.zipWith V.d (fn.params.toList.map E.ty) ds) [] _ r [] w xs
  (fun v w'=>Below w.heap.size w w'∧ResRep E.ty (memOf w' X) fn.resultTypes.toList r v) (hrun ds r hr) (start_ok hX) (by
   have:=RVt.of_each (sz:=P.cellsOf) (μ:=[]) hE
   simpa[M_,owned] using this) ⟨Nat.le_refl _,by simp[noPan]⟩ (by
   intro v H' μ' w' x hf hv h' F'
   exact⟨F'.below,finish_ok EO.ty h' hv hf⟩)
 refine hcall.mono ?_
 rintro e w' (⟨v,rfl,hb,hres⟩ | ⟨_,_,h⟩)
 case inr=>exact h.elim
 refine⟨v,rfl,hb,?_⟩
 by_cases hp:c.plain=true
 ·rw[if_pos hp]
  exact fun M=>noMem_res (hplain hp ds r hr) hres
 ·rw[if_neg hp,if_neg (by simp[hfresh])]
  exact hres
theorem contract_of_runFresh (EO:EnvOk P E I gl) (hpan:E.pan=none) (hgl:∀w,I w→gl≤w.heap.size) {depth f:Nat} {fn:Func} {c:Con}
  (hplain:c.plain=false) (hfresh:c.fresh=true) (hrun:∀ds r,c.run ds=some r→runFresh E depth f (fn.params.toList.map E.ty) fn.resultTypes.toList ds=some r):Contract P E.ty I f fn c:=by
 intro X w ds xs r hIw hX hE hr
 have hcall:=call_ok (X:=X) (B0:=w.heap.size) (w0:=w) (Z:=noPan) EO hIw (hgl w hIw) (noPan_ok hpan) depth (.fn f) (List.zipWith V.d (fn.params.toList.map E.ty) ds) [] _ r [] w xs
  (fun v w'=>Below w.heap.size w w'∧FreshRep P E.ty X w w' fn.resultTypes.toList r v) (hrun ds r hr) (start_ok hX) (by
   have:=RVt.of_each (sz:=P.cellsOf) (μ:=[]) hE
   simpa[M_,owned] using this) ⟨Nat.le_refl _,by simp[noPan]⟩ (by
   intro v H' μ' w' x hf hv h' F'
   refine⟨F'.below,?_⟩
   unfold finishFresh at hf
   split at hf
   ·rename_i t b off len hts
    split at hf
    ·rename_i e nn ds' hH
     cases hc:(decide (E.ty t = .slice e)&&decide (len=ds'.length)&&decide (off=0)) with
     | false=>rw[hc] at hf;simp at hf
     | true=>
      rw[hc] at hf
      simp only[cond_true,Option.some.injEq] at hf
      subst hf
      simp only[Bool.and_eq_true,decide_eq_true_eq] at hc
      obtain⟨⟨hk,rfl⟩,rfl⟩:=hc
      replace hv:=hv.resolve_left (by simp)
      obtain⟨κ,hv⟩:=hv
      simp only[RV] at hv
      obtain⟨l,n,e0,hμ,hl,_,hlen,hx⟩:=hv
      obtain⟨rfl,rfl⟩:=row_loc h' hH hμ hl
      have hobj:=h'.obj b l _ hμ hH
      simp only[ObjOk] at hobj
      obtain⟨_,hlnn,_,hobj⟩:=hobj
      refine .inr ⟨t,e0,nn,ds',hts,hk,rfl,?_⟩
      rcases hx with ⟨hvirt,h0,a,rfl,ha⟩ | ⟨hvirt,cap,rfl,hc1,hc2,hreach⟩ | ⟨hvirt,h0,hreach,a,rfl⟩
      ·exact .inl ⟨List.eq_nil_of_length_eq_zero h0,a,rfl,by rw[ha,hlnn]⟩
      ·rw[if_neg (by simp[hvirt])] at hobj
       obtain⟨hnn,hcap,cs,et,fz,pre,mid,post,h1,h2,h3,h4,h5,h6⟩:=hobj
       refine .inr ⟨hnn,l.blk,l.base,cap,cs,et,fz,pre,mid,post,?_,by simp,h1,h2,h3,?_,⟨hc1,by omega⟩,?_,h6⟩
       ·exact h'.low b l.blk ⟨l,_,hμ,hH,by simp[usesB,hvirt]⟩
       ·refine Reps.mono _ (memOf_leX (fun _ _ _=>rfl) (fun b' hb'=>?_)) _ _ _ h4
        left
        simp only[List.mem_singleton] at hb'
        subst hb'
        exact mem_owned.2 ⟨b,l,_,hμ,hH,by simp[ownB,hvirt]⟩
       ·refine Nat.le_trans (Nat.mul_le_mul_right _ ?_) h5
        omega
      ·rw[if_neg (by simp[hvirt])] at hobj
       exact .inl ⟨List.eq_nil_of_length_eq_zero h0,some a,rfl,by rw[hobj.1];rfl⟩
    ·simp at hf
   ·rename_i t e hts
    cases hc:decide (E.ty t = .slice e) with
    | false=>rw[hc] at hf;simp at hf
    | true=>
     rw[hc] at hf
     simp only[cond_true,Option.some.injEq] at hf
     subst hf
     replace hv:=hv.resolve_left (by simp)
     obtain⟨κ,hv⟩:=hv
     simp only[RV] at hv
     obtain⟨_,hv⟩:=hv
     simp only[Rep] at hv
     obtain⟨e1,a,cap,h1,hx,_,hnn,hnil,_⟩:=hv
     have ha:a=none:=by cases a with | none=>rfl | some _=>simp at hnn
     subst ha
     have hcap:=hnil rfl
     subst hcap
     exact .inr ⟨t,e,false,[],hts,of_decide_eq_true hc,rfl,.inl ⟨rfl,none,hx,rfl⟩⟩
   ·rename_i t b hts
    split at hf
    ·rename_i a' e' es hH
     cases hc:decide (E.ty t = .map a' e') with
     | false=>rw[hc] at hf;simp at hf
     | true=>
      rw[hc] at hf
      simp only[cond_true,Option.some.injEq] at hf
      subst hf
      replace hv:=hv.resolve_left (by simp)
      obtain⟨κ,hv⟩:=hv
      simp only[RV] at hv
      obtain⟨l,a2,e2,hμ,_,_,hx⟩:=hv
      have hobj:=h'.obj b l _ hμ hH
      simp only[ObjOk] at hobj
      obtain⟨_,_,_,ms,hblk,hent⟩:=hobj
      refine .inl ⟨t,a',e',es,l.blk,ms,hts,of_decide_eq_true hc,rfl,hx,?_,hblk,?_⟩
      ·exact h'.low b l.blk ⟨l,_,hμ,hH,rfl⟩
      ·exact hent.mono (memOf_leX (own:=owned μ' H') (own':=[l.blk]) (fun _ _ _=>rfl) (fun b' hb'=>by
        left
        simp only[List.mem_singleton] at hb'
        subst hb'
        exact mem_owned.2 ⟨b,l,_,hμ,hH,rfl⟩))
    ·simp at hf
   ·simp at hf)
 refine hcall.mono ?_
 rintro e w' (⟨v,rfl,hb,hres⟩ | ⟨_,_,h⟩)
 case inr=>exact h.elim
 refine⟨v,rfl,hb,?_⟩
 rw[if_neg (by simp[hplain]),if_pos hfresh]
 exact hres
end
end Go.AM
namespace Go.AM
open Go
abbrev Kont:=AExit→List V→List AObj→Option D
abbrev Inl (R:Type):=Tgt→List V→List AObj→(V→List AObj→Option R)→Option R
abbrev Sum:=List V→List AObj→List (Nat×Nat)→Kont→Option D
def evT (rd:Bool) (E:Env) (inl:Inl D) (f:Nat) (tbl:Nat→Option Sum) :
  Code→List V→List AObj→Kont→Option D
 | .skip,regs,H,k=>k .normal regs H
 | .label _,regs,H,k=>k .normal regs H
 | .ret,regs,H,k=>k .ret regs H
 | .exit id,regs,H,k=>k (.exit id) regs H
 | .seq a b,regs,H,k=>evT rd E inl f tbl a regs H fun e r h=>match e with
  | .normal=>evT rd E inl f tbl b r h k
  | .ret=>k .ret r h
  | .exit id=>k (.exit id) r h
 | .cond c a b,regs,H,k=>match val regs .bool c with
  | .d .bool x=>match x.b with
   | true=>evT rd E inl f tbl a regs H k
   | false=>evT rd E inl f tbl b regs H k
  | _=>none
 | .block id c,regs,H,k=>evT rd E inl f tbl c regs H fun e r h=>match e with
  | .normal=>k .normal r h
  | .ret=>k .ret r h
  | .exit id'=>bif id'==id then k .normal r h else k (.exit id') r h
 | .loop c,regs,H,k=>
  match rowify E.ty (E.hint f (firstRegion c)).rows regs H [] with
  | some (regs',H',tg)=>match (E.hint f (firstRegion c)).unr with
   | some n=>loopN (fun r h=>some (r,h)) (fun r h k'=>evT rd E inl f tbl c r h (cutK (E.hint f (firstRegion c)).out k')) n regs' H' k
   | none=>match tbl (firstRegion c) with
    | some s=>s regs' H' tg k
    | none=>none
  | none=>none
 | .region id ops false,regs,H,k=>evOps E inl (E.hint f id) (ops.toList.map (·.dst)) ops.toList regs H fun r h=>k .normal r h
 | .region id ops true,regs,H,k=>bif permOk (E.hint f id).perm ops.toList then evReg E inl (E.hint f id) (permOps (E.hint f id).perm ops.toList) regs H fun r h=>k .normal r h else none
 | .rangeFunc g ps asg body,regs,H,k=>bif rd then none else
  match vFunc (val regs .func g) with
  | some (gf,[],cs)=>if hasBody E gf=true then inl (.fn gf) (.yield H.length::cs) (H++[.loop .ready f (firstRegion body) (.tup (keep (E.hint f (firstRegion body)).live 0 regs))]) fun _ H'=>
   match H'[H.length]? with
   | some (.loop st _ _ _)=>match st with
    | .ready=>k .normal regs (H'.set H.length .dead)
    | .ret=>k .ret regs (H'.set H.length .dead)
    | .exit id=>k (.exit id) regs (H'.set H.length .dead)
    | .busy=>none
   | _=>none
   else none
  | _=>none
 | _,_,_,_=>none
def Le {R:Type} (a b:Option R):Prop:=∀r,a=some r→b=some r
theorem Le.refl {R:Type} (a:Option R):Le a a:=fun _ h=>h
theorem Le.trans {R:Type} {a b c:Option R} (h:Le a b) (k:Le b c):Le a c:=fun r hr=>k r (h r hr)
theorem Le.none {R:Type} {b:Option R}:Le none b:=fun _ h=>by simp at h
section
variable {R:Type} {E:Env} {hint:Hint} {H:List AObj} {regs:List V}
theorem evOp_le {t:Nat} {op:Op} {k k':V→Eff→Option R} (h:∀v e,Le (k v e) (k' v e)):Le (evOp E hint H regs t op k) (evOp E hint H regs t op k'):=by
 intro r hr
 obtain⟨v,e,h1,h2⟩:=evOp_once hr
 rw[evOp_lin,h1]
 exact h v e r h2
def InlLe (inl inl':Inl R):Prop:=
 ∀g args H k k',(∀v h,Le (k v h) (k' v h))→Le (inl g args H k) (inl' g args H k')
variable {inl inl':Inl R}
theorem evOps_le (hi:InlLe inl inl') {ds:List (Option Nat)} {k k':List V→List AObj→Option R} (h:∀r h,Le (k r h) (k' r h)) :
  ∀(os:List Oper) (regs:List V) (H:List AObj),Le (evOps E inl hint ds os regs H k) (evOps E inl' hint ds os regs H k')
 | [],regs,H=>by simp only[evOps];exact h regs H
 | o::os,regs,H=>by
  have hgo:∀regs,Le
    (match inlines E regs o with
     | some (g,args)=>inl g args H fun v H'=>evOps E inl hint ds os (setD regs o.dst v) H' k
     | none=>evOp E hint H regs o.type o.op fun v e=>evOps E inl hint ds os (setD regs o.dst v) (e.app H) k)
    (match inlines E regs o with
     | some (g,args)=>inl' g args H fun v H'=>evOps E inl' hint ds os (setD regs o.dst v) H' k'
     | none=>evOp E hint H regs o.type o.op fun v e=>evOps E inl' hint ds os (setD regs o.dst v) (e.app H) k'):=by
   intro regs
   split
   ·exact hi _ _ _ _ _ fun v h'=>evOps_le hi h os _ _
   ·exact evOp_le fun v e=>evOps_le hi h os _ _
  simp only[evOps]
  split
  ·exact hgo _
  ·rename_i j want hg
   split
   ·split
    ·split
     ·cases want
      ·exact evOps_le hi h os _ _
      ·exact hgo _
     ·cases want
      ·exact hgo _
      ·exact evOps_le hi h os _ _
    ·exact evOps_le hi h os _ _
    ·exact Le.refl _
   ·exact Le.refl _
theorem evOpD_le {t:Nat} {op:Op} {rsv:Option Nat} {k k':V→Eff→Option R} (h:∀v e,Le (k v e) (k' v e)):Le (evOpD E hint H regs t op rsv k) (evOpD E hint H regs t op rsv k'):=by
 intro r hr
 obtain⟨v,e,h1,h2⟩:=evOpD_once hr
 rw[evOpD_lin,h1]
 exact h v e r h2
theorem evDraw_le (hi:InlLe inl inl') {ms:List Nat} {n:Nat} {ds rs:List (Option Nat)} {all:List Oper} {k k':List V→List AObj→Option R} (h:∀r h,Le (k r h) (k' r h)) :
  ∀(os:List Oper) (i:Nat) (lg:List Log) (regs:List V) (H:List AObj),Le (evDraw E inl hint ms n ds rs all os i lg regs H k) (evDraw E inl' hint ms n ds rs all os i lg regs H k')
 | [],i,lg,regs,H=>by
  simp only[evDraw]
  cases pairsOk ms lg
  ·exact Le.none
  ·exact h regs H
 | o::os,i,lg,regs,H=>by
  have hgo:∀regs,Le
    (match inlines E regs o with
     | some (g,args)=>bif pairsOk ms lg&&(barrier ms n i&&lateAll ms rs all i) then inl g args H fun v H'=>bif (late ms i).all (recheck E hint all rs regs H') then evDraw E inl hint ms n ds rs all os (i+1) ((late ms i).map (relog all rs regs)) (setD regs o.dst v) H' k else none else none
     | none=>evOpD E hint H regs o.type o.op (rs.getD i none) fun v e=>evDraw E inl hint ms n ds rs all os (i+1) (lg++[⟨i,opReads regs o.op++rsvR (rs.getD i none),e.writes H.length,e.still,(rs.getD i none).isSome,mapTag o.op⟩]) (setD regs o.dst v) (e.app H) k)
    (match inlines E regs o with
     | some (g,args)=>bif pairsOk ms lg&&(barrier ms n i&&lateAll ms rs all i) then inl' g args H fun v H'=>bif (late ms i).all (recheck E hint all rs regs H') then evDraw E inl' hint ms n ds rs all os (i+1) ((late ms i).map (relog all rs regs)) (setD regs o.dst v) H' k' else none else none
     | none=>evOpD E hint H regs o.type o.op (rs.getD i none) fun v e=>evDraw E inl' hint ms n ds rs all os (i+1) (lg++[⟨i,opReads regs o.op++rsvR (rs.getD i none),e.writes H.length,e.still,(rs.getD i none).isSome,mapTag o.op⟩]) (setD regs o.dst v) (e.app H) k'):=by
   intro regs
   split
   ·cases pairsOk ms lg&&(barrier ms n i&&lateAll ms rs all i)
    ·exact Le.none
    ·refine hi _ _ _ _ _ fun v h'=>?_
     cases (late ms i).all (recheck E hint all rs regs h')
     ·exact Le.none
     ·exact evDraw_le hi h os _ _ _ _
   ·exact evOpD_le fun v e=>evDraw_le hi h os _ _ _ _
  simp only[evDraw]
  split
  ·exact hgo _
  ·rename_i j want hg
   split
   ·split
    ·split
     ·split
      ·cases want
       ·exact evDraw_le hi h os _ _ _ _
       ·exact hgo _
      ·cases want
       ·exact hgo _
       ·exact evDraw_le hi h os _ _ _ _
     ·exact Le.refl _
    ·exact evDraw_le hi h os _ _ _ _
    ·exact Le.refl _
   ·exact Le.refl _
theorem evReg_le (hi:InlLe inl inl') {os:List Oper} {k k':List V→List AObj→Option R} (h:∀r h,Le (k r h) (k' r h)):Le (evReg E inl hint os regs H k) (evReg E inl' hint os regs H k'):=by
 unfold evReg
 cases drawOk (masks os) os
 ·exact Le.none
 ·exact evDraw_le hi h _ _ _ _ _
theorem loopN_le {head:List V→List AObj→Option (List V×List AObj)} {body body':List V→List AObj→(AExit→List V→List AObj→Option R)→Option R}
  (hb:∀r h k k',(∀e r h,Le (k e r h) (k' e r h))→Le (body r h k) (body' r h k')) :
  ∀(n:Nat) (regs:List V) (H:List AObj) (k k':AExit→List V→List AObj→Option R),(∀e r h,Le (k e r h) (k' e r h))→Le (loopN head body n regs H k) (loopN head body' n regs H k')
 | 0,_,_,_,_,_=>Le.refl _
 | n+1,regs,H,k,k',hk=>by
  simp only[loopN]
  split
  ·refine hb _ _ _ _ fun e r h=>?_
   cases e with
   | normal=>exact loopN_le hb n r h k k' hk
   | ret=>exact hk .ret r h
   | exit id=>exact hk (.exit id) r h
  ·exact Le.refl _
theorem cutK_le {out:Option (List Nat)} {k k':AExit→List V→List AObj→Option R} (hk:∀e r h,Le (k e r h) (k' e r h)) (e:AExit) (r:List V) (h:List AObj):Le (cutK out k e r h) (cutK out k' e r h):=by
 cases e<;>exact hk _ _ _
theorem ev_le (hi:InlLe inl inl') {rd:Bool} {f base:Nat}:∀(c:Code) (regs:List V) (H:List AObj) (k k':AExit→List V→List AObj→Option R),(∀e r h,Le (k e r h) (k' e r h)) →
  Le (ev rd E inl f base c regs H k) (ev rd E inl' f base c regs H k'):=by
 intro c
 induction c with
 | skip=>intro regs H k k' h;exact h .normal regs H
 | label l=>intro regs H k k' h;exact h .normal regs H
 | ret=>intro regs H k k' h;exact h .ret regs H
 | exit id=>intro regs H k k' h;exact h (.exit id) regs H
 | seq a b iha ihb=>
  intro regs H k k' h
  refine iha _ _ _ _ fun e r hh=>?_
  cases e with
  | normal=>exact ihb _ _ _ _ h
  | ret=>exact h .ret r hh
  | exit id=>exact h (.exit id) r hh
 | cond c a b iha ihb=>
  intro regs H k k' h
  simp only[ev]
  split
  ·split
   ·exact iha _ _ _ _ h
   ·exact ihb _ _ _ _ h
  ·exact Le.refl _
 | block id c ih=>
  intro regs H k k' h
  refine ih _ _ _ _ fun e r hh=>?_
  cases e with
  | normal=>exact h .normal r hh
  | ret=>exact h .ret r hh
  | exit id'=>
   simp only[]
   cases id'==id
   ·exact h (.exit id') r hh
   ·exact h .normal r hh
 | loop c ih=>
  intro regs H k k' h
  simp only[ev]
  split
  ·split
   ·exact loopN_le (fun r hh k k' hk=>ih r hh _ _ (cutK_le hk)) _ _ _ _ _ h
   ·exact loopN_le (fun r hh k k' hk=>ih r hh _ _ (cutK_le hk)) _ _ _ _ _ h
  ·exact Le.refl _
 | region id ops draw=>
  intro regs H k k' h
  cases draw with
  | false=>simp only[ev];exact evOps_le hi (fun r hh=>h .normal r hh) _ _ _
  | true=>
   simp only[ev]
   cases permOk (E.hint f id).perm ops.toList
   ·exact Le.none
   ·exact evReg_le hi (fun r hh=>h .normal r hh)
 | rangeFunc g ps asg body _ _=>
  intro regs H k k' h
  simp only[ev]
  cases rd
  ·simp only[cond_false]
   split
   ·split
    ·refine hi _ _ _ _ _ fun v H'=>?_
     split
     ·split
      ·exact h _ _ _
      ·exact h _ _ _
      ·exact h _ _ _
      ·exact Le.refl _
     ·exact Le.refl _
    ·exact Le.refl _
   ·exact Le.refl _
  ·exact Le.refl _
 | scope=>intro regs H k k' h;simp only[ev];exact Le.refl _
 | goto=>intro regs H k k' h;simp only[ev];exact Le.refl _
 | refuse=>intro regs H k k' h;simp only[ev];exact Le.refl _
theorem call_mono:∀(n:Nat),InlLe (call E n) (call E n)
 | 0=>fun _ _ _ _ _ _=>Le.refl _
 | n+1=>by
  intro tg args H k k' h
  cases tg with
  | panic=>exact Le.refl _
  | yield b=>
   simp only[call]
   cases E.rd0
   case true=>exact Le.refl _
   simp only[cond_false]
   split
   ·split
    ·split
     ·refine ev_le (call_mono n) _ _ _ _ _ fun e r hh=>?_
      cases e with
      | normal=>
       simp only[]
       cases isLoop hh b false
       ·exact Le.refl _
       ·simp only[cond_true]
        split
        ·refine ev_le (call_mono n) _ _ _ _ _ fun e r hh=>?_
         cases isLoop hh b true
         ·exact Le.refl _
         ·simp only[cond_true]
          cases e with
          | normal=>simp only[];split
                    ·exact h _ _
                    ·exact Le.refl _
          | ret=>simp only[];split
                 ·exact h _ _
                 ·exact Le.refl _
          | exit id=>simp only[];split
                     ·exact h _ _
                     ·exact Le.refl _
        ·exact Le.refl _
      | ret=>exact Le.refl _
      | exit id=>exact Le.refl _
     ·exact Le.refl _
    ·exact Le.refl _
   ·exact Le.refl _
  | fn g=>
  simp only[call]
  split
  ·split
   ·rename_i cc v H' _
    cases cc
    ·exact Le.none
    ·exact h _ _
   ·exact Le.refl _
  split
  ·split
   ·refine ev_le (call_mono n) _ _ _ _ _ fun e r hh=>?_
    cases e with
    | exit id=>exact Le.refl _
    | normal=>simp only[];split
              ·exact h _ _
              ·exact Le.refl _
    | ret=>simp only[];split
           ·exact h _ _
           ·exact Le.refl _
   ·exact Le.refl _
  ·exact Le.refl _
end
def loopsOf:Code→List Code
 | .seq a b=>loopsOf a++loopsOf b
 | .cond _ a b=>loopsOf a++loopsOf b
 | .block _ c=>loopsOf c
 | .loop c=>c::loopsOf c
 | _=>[]
def SumOk (rd:Bool) (E:Env) (inl:Inl D) (f base:Nat) (c:Code) (s:Sum):Prop:=
 ∀regs H tg k,Le (s regs H tg k) (loopN (headSt base (E.hint f (firstRegion c)).live tg H.length) (fun r h k'=>ev rd E inl f base c r h (cutK (E.hint f (firstRegion c)).out k')) E.fuel regs H k)
def TblOk (rd:Bool) (E:Env) (inl:Inl D) (f base:Nat) (tbl:Nat→Option Sum) (c:Code):Prop:=
 ∀c'∈loopsOf c,∀s,tbl (firstRegion c')=some s→SumOk rd E inl f base c' s
theorem evT_le {rd:Bool} {E:Env} {inl inl':Inl D} (hi:InlLe inl inl') (hi':InlLe inl' inl') {f base:Nat} {tbl:Nat→Option Sum} :
  ∀(c:Code),TblOk rd E inl' f base tbl c→∀(regs:List V) (H:List AObj) (k k':Kont),(∀e r h,Le (k e r h) (k' e r h))→Le (evT rd E inl f tbl c regs H k) (ev rd E inl' f base c regs H k'):=by
 intro c
 induction c with
 | skip=>intro T regs H k k' h;exact h .normal regs H
 | label l=>intro T regs H k k' h;exact h .normal regs H
 | ret=>intro T regs H k k' h;exact h .ret regs H
 | exit id=>intro T regs H k k' h;exact h (.exit id) regs H
 | seq a b iha ihb=>
  intro T regs H k k' h
  refine iha (fun c' hc=>T c' (by simp[loopsOf,hc])) _ _ _ _ fun e r hh=>?_
  cases e with
  | normal=>exact ihb (fun c' hc=>T c' (by simp[loopsOf,hc])) _ _ _ _ h
  | ret=>exact h .ret r hh
  | exit id=>exact h (.exit id) r hh
 | cond c a b iha ihb=>
  intro T regs H k k' h
  simp only[ev,evT]
  cases hv:val regs K.bool c with
  | d κ x=>
   cases κ with
   | bool=>
    simp only[]
    cases x.b
    ·exact ihb (fun c' hc=>T c' (by simp[loopsOf,hc])) _ _ _ _ h
    ·exact iha (fun c' hc=>T c' (by simp[loopsOf,hc])) _ _ _ _ h
   | _=>exact Le.none
  | _=>exact Le.none
 | block id c ih=>
  intro T regs H k k' h
  refine ih (fun c' hc=>T c' (by simpa[loopsOf] using hc)) _ _ _ _ fun e r hh=>?_
  cases e with
  | normal=>exact h .normal r hh
  | ret=>exact h .ret r hh
  | exit id'=>
   simp only[]
   cases id'==id
   ·exact h (.exit id') r hh
   ·exact h .normal r hh
 | loop c ih=>
  intro T regs H k k' h
  simp only[ev,evT]
  cases hr:rowify E.ty (E.hint f (firstRegion c)).rows regs H [] with
  | none=>exact Le.none
  | some p=>
   obtain⟨regs1,H1,tg⟩:=p
   simp only[]
   cases hu:(E.hint f (firstRegion c)).unr with
   | some n=>exact loopN_le (fun r hh k k' hk=>ih (fun c' hc=>T c' (by simp[loopsOf,hc])) r hh _ _ (cutK_le hk)) _ _ _ _ _ h
   | none=>
    simp only[]
    split
    ·rename_i s hs
     refine Le.trans (T c (by simp[loopsOf]) s hs _ _ _ _) ?_
     exact loopN_le (fun r hh k k' hk=>ev_le hi' c r hh _ _ (cutK_le hk)) _ _ _ _ _ h
    ·exact Le.none
 | region id ops draw=>
  intro T regs H k k' h
  cases draw with
  | false=>simp only[ev,evT];exact evOps_le hi (fun r hh=>h .normal r hh) _ _ _
  | true=>
   simp only[ev,evT]
   cases permOk (E.hint f id).perm ops.toList
   ·exact Le.none
   ·exact evReg_le hi (fun r hh=>h .normal r hh)
 | rangeFunc g ps asg body _ _=>
  intro T regs H k k' h
  simp only[ev,evT]
  cases rd
  ·simp only[cond_false]
   cases hv:vFunc (val regs .func g) with
   | none=>exact Le.none
   | some p=>
    obtain⟨gf,fs,cs⟩:=p
    cases fs with
    | cons _ _=>exact Le.none
    | nil=>
     simp only[]
     by_cases hb:hasBody E gf=true
     ·rw[if_pos hb,if_pos hb]
      refine hi _ _ _ _ _ fun v H'=>?_
      cases H'[H.length]? with
      | none=>exact Le.none
      | some o=>
       cases o with
       | loop st f id u=>
        cases st with
        | ready=>exact h _ _ _
        | ret=>exact h _ _ _
        | exit id=>exact h _ _ _
        | busy=>exact Le.none
       | _=>exact Le.none
     ·rw[if_neg hb,if_neg hb];exact Le.none
  ·exact Le.none
 | scope=>intro T regs H k k' h;simp only[evT];exact Le.none
 | goto=>intro T regs H k k' h;simp only[evT];exact Le.none
 | refuse=>intro T regs H k k' h;simp only[evT];exact Le.none
abbrev Tbl:=Nat→Nat→Nat→Nat→Option Sum
def callS (E:Env) (T:Tbl):Nat→Inl D
 | 0,_,_,_,_=>none
 | _+1,.panic,args,H,_=>match E.pan with
  | some p=>match args with
   | [v]=>bif isIf v then p v H else none
   | _=>none
  | none=>none
 | n+1,.yield b,args,H,k=>bif E.rd0 then none else match H[b]? with
  | some (.loop .ready f id (.tup regs))=>match E.rnd f id with
   | some (ps,asg,body)=>if args.length=ps.length then
    evT true E (callS E T n) f (T f n H.length) asg (setPs ps args regs) H fun e regs1 H1=>match e with
     | .normal=>bif isLoop H1 b false then match setLoop .busy b H1 with
      | some H2=>evT true E (callS E T n) f (T f n H.length) body regs1 H2 fun e _ H3=>bif isLoop H3 b true then match e with
        | .normal=>match setLoop .ready b H3 with | some H4=>k (.d .bool (.bool true)) H4 | none=>none
        | .ret=>match setLoop .ret b H3 with | some H4=>k (.d .bool (.bool false)) H4 | none=>none
        | .exit id=>match setLoop (.exit id) b H3 with | some H4=>k (.d .bool (.bool false)) H4 | none=>none
       else none
      | none=>none
      else none
     | _=>none
    else none
   | none=>none
  | _=>none
 | n+1,.fn f,args,H,k=>match E.ext f with
  | some x=>match x args H with
   | some (c,v,H')=>bif c then k v H' else none
   | none=>none
  | none=>match E.fn f with
  | some fn=>match fn.body with
   | some c=>evT E.rd0 E (callS E T n) f (T f n H.length) c (args++List.replicate (fn.ntmps-args.length) .undef) H fun e regs H'=>match e with
    | .exit _=>none
    | _=>match resVals E regs H' fn.results.toList with
     | some vs=>k (oneOf vs) H'
     | none=>none
   | none=>none
  | none=>none
def AllOk (E:Env) (T:Tbl):Prop:=∀f fn c n base,E.fn f=some fn→fn.body=some c→TblOk E.rd0 E (call E n) f base (T f n base) c∧∀x∈rounds c,TblOk true E (call E n) f base (T f n base) x.2.2.1∧TblOk true E (call E n) f base (T f n base) x.2.2.2
theorem rnd_ok {E:Env} {T:Tbl} (hT:AllOk E T) {f id n base:Nat} {ps:List Nat} {asg body:Code} (h:E.rnd f id=some (ps,asg,body)) :
  TblOk true E (call E n) f base (T f n base) asg∧TblOk true E (call E n) f base (T f n base) body:=by
 simp only[Env.rnd] at h
 split at h
 ·rename_i fn hfn
  split at h
  ·rename_i c hc
   exact(hT f fn c n base hfn hc).2 _ (findRound_mem h)
  ·simp at h
 ·simp at h
theorem callS_le {E:Env} {T:Tbl} (hT:AllOk E T):∀(n:Nat),InlLe (callS E T n) (call E n)
 | 0=>fun _ _ _ _ _ _=>Le.refl _
 | n+1=>by
  intro tg args H k k' h
  cases tg with
  | panic=>exact Le.refl _
  | yield b=>
   simp only[callS,call]
   cases E.rd0
   case true=>exact Le.none
   simp only[cond_false]
   cases hHb:H[b]? with
   | none=>exact Le.none
   | some o=>
   cases o with
   | loop st f id u=>
    cases st with
    | ready=>
     cases u with
     | tup regs=>
      simp only[]
      cases hr:E.rnd f id with
      | none=>exact Le.none
      | some p=>
       obtain⟨ps,asg,body⟩:=p
       simp only[]
       by_cases hl:args.length=ps.length
       case neg=>rw[if_neg hl];exact Le.none
       rw[if_pos hl,if_pos hl]
       obtain⟨T1,T2⟩:=rnd_ok hT (n:=n) (base:=H.length) hr
       refine evT_le (callS_le hT n) (call_mono n) asg T1 _ _ _ _ fun e r hh=>?_
       cases e with
       | normal=>
        simp only[]
        cases isLoop hh b false
        ·exact Le.none
        ·simp only[cond_true]
         cases setLoop .busy b hh with
         | none=>exact Le.none
         | some H2=>
          simp only[]
          refine evT_le (callS_le hT n) (call_mono n) body T2 _ _ _ _ fun e r hh=>?_
          cases isLoop hh b true
          ·exact Le.none
          ·simp only[cond_true]
           cases e with
           | normal=>
            simp only[]
            cases setLoop .ready b hh with
            | none=>exact Le.none
            | some H4=>exact h _ _
           | ret=>
            simp only[]
            cases setLoop .ret b hh with
            | none=>exact Le.none
            | some H4=>exact h _ _
           | exit id=>
            simp only[]
            cases setLoop (.exit id) b hh with
            | none=>exact Le.none
            | some H4=>exact h _ _
       | ret=>exact Le.none
       | exit id=>exact Le.none
     | _=>exact Le.none
    | _=>exact Le.none
   | _=>exact Le.none
  | fn f=>
  simp only[callS,call]
  cases hx:E.ext f with
  | some x=>
   simp only[]
   cases x args H with
   | none=>exact Le.none
   | some p=>
    obtain⟨cc,v,H'⟩:=p
    cases cc
    ·exact Le.none
    ·exact h _ _
  | none=>
  simp only[]
  cases hf:E.fn f with
  | none=>exact Le.none
  | some fn=>
   simp only[]
   cases hb:fn.body with
   | none=>exact Le.none
   | some c=>
    simp only[]
    refine evT_le (callS_le hT n) (call_mono n) c (hT f fn c n H.length hf hb).1 _ _ _ _ fun e r hh=>?_
    cases e with
    | exit id=>exact Le.refl _
    | normal=>
     simp only[]
     cases resVals E r hh fn.results.toList with
     | none=>exact Le.none
     | some vs=>exact h _ _
    | ret=>
     simp only[]
     cases resVals E r hh fn.results.toList with
     | none=>exact Le.none
     | some vs=>exact h _ _
end Go.AM
namespace Go.AM
open Go Go.RowKit
mutual
def D.has (ty:Nat→K):D→K→Prop
 | .bool _,κ=>κ = .bool
 | .int k _,κ=>κ = .int k
 | .str _,κ=>κ = .str
 | .agg ds,κ=>κ.isAgg=true∧D.hass ty ds (κ.kids ty)
 | .slice nn ds,κ=>∃e,κ = .slice e∧D.hass ty ds (List.replicate ds.length (ty e))∧(nn=false→ds=[])
 | .iface t x,κ=>(∃m,κ = .iface m)∧notIface (ty t)=true∧D.has ty x (ty t)
 | .nilIface,κ=>∃m,κ = .iface m
 | .fn _,κ=>κ = .func
 | .nilFunc,κ=>κ = .func
 | .nilPtr,κ=>∃e,κ = .ptr e
 | .nilMap,κ=>∃a e,κ = .map a e
 | .tup _,_=>False
def D.hass (ty:Nat→K):List D→List K→Prop
 | [],κs=>κs=[]
 | d::ds,κs=>∃κ κs',κs=κ::κs'∧D.has ty d κ∧D.hass ty ds κs'
end
section
variable {ty:Nat→K}
mutual
theorem rep_has {M:Mem}:∀(d:D) (κ:K) (v:Value),Rep ty M d κ v→D.has ty d κ
 | .bool _,_,_,h=>by simp only[Rep] at h;simp only[D.has];exact h.1
 | .int _ _,_,_,h=>by simp only[Rep] at h;simp only[D.has];exact h.1
 | .str _,_,_,h=>by simp only[Rep] at h;simp only[D.has];exact h.1
 | .agg ds,_,_,h=>by
  simp only[Rep] at h;simp only[D.has]
  obtain⟨a,cs,_,c⟩:=h
  exact⟨a,reps_has ds _ _ c⟩
 | .slice nn ds,_,_,h=>by
  simp only[Rep] at h;simp only[D.has]
  obtain⟨e,a,cap,h1,_,h3,h4,h5,h6⟩:=h
  refine⟨e,h1,?_,?_⟩
  ·rcases h6 with rfl | ⟨_,cs,_,_,h7⟩
   ·simp[D.hass]
   ·exact reps_has ds _ _ h7
  ·rintro rfl
   have ha:a=none:=by cases a with | none=>rfl | some _=>simp at h4
   have:=h5 ha
   exact List.eq_nil_of_length_eq_zero (by omega)
 | .iface t x,_,_,h=>by
  simp only[Rep] at h;simp only[D.has]
  obtain⟨a,b,y,_,c⟩:=h
  exact⟨a,b,rep_has x _ _ c⟩
 | .nilIface,_,_,h=>by simp only[Rep] at h;simp only[D.has];exact h.1
 | .fn _,_,_,h=>by simp only[Rep] at h;simp only[D.has];exact h.1
 | .nilFunc,_,_,h=>by simp only[Rep] at h;simp only[D.has];exact h.1
 | .nilPtr,_,_,h=>by simp only[Rep] at h;simp only[D.has];exact h.1
 | .nilMap,_,_,h=>by simp only[Rep] at h;simp only[D.has];exact h.1
 | .tup _,_,_,h=>by simp only[Rep] at h
theorem reps_has {M:Mem}:∀(ds:List D) (κs:List K) (cs:List Value),Reps ty M ds κs cs→D.hass ty ds κs
 | [],_,_,h=>by simp only[Reps] at h;simp only[D.hass];exact h.1
 | d::ds,_,_,h=>by
  simp only[Reps] at h;simp only[D.hass]
  obtain⟨κ,κs',x,rest,h1,_,h2,h3⟩:=h
  exact⟨κ,κs',h1,rep_has d _ _ h2,reps_has ds _ _ h3⟩
end
theorem each_has {M:Mem}:∀(ds:List D) (κs:List K) (xs:List Value),Each ty M ds κs xs→D.hass ty ds κs
 | [],_,_,h=>by simp only[Each] at h;simp only[D.hass];exact h.1
 | d::ds,_,_,h=>by
  simp only[Each] at h;simp only[D.hass]
  obtain⟨κ,κs',x,rest,h1,_,h2,h3⟩:=h
  exact⟨κ,κs',h1,rep_has d _ _ h2,each_has ds _ _ h3⟩
variable {P:Program} {I:World→Prop} {gl:Nat}
def Comes (P:Program) (ty:Nat→K) (I:World→Prop) (gl f:Nat) (fn:Func) (ds:List D) (r:D) (fin:(Nat→K)→List Nat→V→List AObj→Option D):Prop:=
 ∃(E:Env) (n:Nat) (T:Tbl),EnvOk P E I gl∧E.ty=ty∧E.pan=none∧AllOk E T ∧
  callS E T n (.fn f) (List.zipWith V.d (fn.params.toList.map ty) ds) [] (fun v H=>fin ty fn.resultTypes.toList v H)=some r
theorem contract_of (hgl:∀w,I w→gl≤w.heap.size) {f:Nat} {fn:Func} {c:Con} (hfresh:c.fresh=false)
  (hrun:∀ds r,D.hass ty ds (fn.params.toList.map ty)→c.run ds=some r→Comes P ty I gl f fn ds r finish)
  (hplain:c.plain=true→∀ds r,D.hass ty ds (fn.params.toList.map ty)→c.run ds=some r→r.noMem=true):Contract P ty I f fn c:=by
 classical
 intro X w ds xs r hIw hX hE hr
 have hH:=each_has _ _ _ hE
 obtain⟨E,n,T,EO,rfl,hpan,hT,hrr⟩:=hrun ds r hH hr
 have h1:=callS_le hT n (.fn f) _ _ _ _ (fun _ _=>Le.refl _) r hrr
 have:=contract_of_run EO hpan hgl (depth:=n) (f:=f) (fn:=fn) (c:={ c with run:=fun ds'=>if ds'=ds then some r else none }) hfresh (fun ds' r' h=>by
  by_cases hd:ds'=ds
  ·subst hd;simp at h;subst h;exact h1
  ·simp[hd] at h) (fun hp ds' r' h=>by
  by_cases hd:ds'=ds
  ·subst hd;simp at h;subst h;exact hplain hp ds' r hH hr
  ·simp[hd] at h)
 exact this X w ds xs r hIw hX hE (by simp)
theorem contract_of_fresh (hgl:∀w,I w→gl≤w.heap.size) {f:Nat} {fn:Func} {c:Con} (hplain:c.plain=false) (hfresh:c.fresh=true)
  (hrun:∀ds r,D.hass ty ds (fn.params.toList.map ty)→c.run ds=some r→Comes P ty I gl f fn ds r finishFresh):Contract P ty I f fn c:=by
 classical
 intro X w ds xs r hIw hX hE hr
 have hH:=each_has _ _ _ hE
 obtain⟨E,n,T,EO,rfl,hpan,hT,hrr⟩:=hrun ds r hH hr
 have h1:=callS_le hT n (.fn f) _ _ _ _ (fun _ _=>Le.refl _) r hrr
 have:=contract_of_runFresh EO hpan hgl (depth:=n) (f:=f) (fn:=fn) (c:={ c with run:=fun ds'=>if ds'=ds then some r else none }) hplain hfresh (fun ds' r' h=>by
  by_cases hd:ds'=ds
  ·subst hd;simp at h;subst h;exact h1
  ·simp[hd] at h)
 exact this X w ds xs r hIw hX hE (by simp)
end
end Go.AM
namespace Go.AM
open Go
inductive Leaf where
 | i (n:Int) | b (x:Bool) | s (x:ByteArray) | d (x:D) | l (x:List D) | n (x:Nat) | m (x:List (D×D))
inductive PD where
 | x | int (k:IntKind) | bool | str | slice | agg (ps:List PD) | iface (t:Nat) (p:PD) | nilIface | fn (f:Nat) | nilFunc | nilPtr
inductive PV where
 | undef | d (κ:K) (p:PD) | agg (κ:K) (ps:List PV) | dtup (κs:List K) (p:PD) | sref (b:Nat) | lit (e:Nat) | ptr (b:Nat) (path:List Nat) (κ:K) | cptr (κ:K) (p:PD)
 | func (f:Nat) (a c:List PV) | iface (t:Nat) (p:PV) | iter (b:Nat) | yield (b:Nat) | map (b:Nat) | tup (ps:List PV)
inductive PO where
 | var (κ:K) (p:PV) | row (e:Nat) (own:Bool) | map (a e:Nat) | iter | dead | loop (busy:Bool) (f id:Nat) (p:PV)
mutual
def takeD:PD→D→Option (List Leaf)
 | .x,x=>some [.d x]
 | .int k,.int k' n=>if k=k' then some [.i n] else none
 | .bool,.bool x=>some [.b x]
 | .str,.str x=>some [.s x]
 | .slice,.slice nn ds=>some [.b nn,.l ds]
 | .agg ps,.agg ds=>takeDs ps ds
 | .iface t p,.iface t' x=>if t=t' then takeD p x else none
 | .nilIface,.nilIface=>some []
 | .fn f,.fn g=>if f=g then some [] else none
 | .nilFunc,.nilFunc=>some []
 | .nilPtr,.nilPtr=>some []
 | _,_=>none
def takeDs:List PD→List D→Option (List Leaf)
 | [],[]=>some []
 | p::ps,x::xs=>match takeD p x with
  | some l=>match takeDs ps xs with | some l'=>some (l++l') | none=>none
  | none=>none
 | _,_=>none
end
mutual
def fillD:PD→List Leaf→D×List Leaf
 | .x,.d x::r=>(x,r)
 | .int k,.i n::r=>(.int k n,r)
 | .bool,.b x::r=>(.bool x,r)
 | .str,.s x::r=>(.str x,r)
 | .slice,.b nn::.l ds::r=>(.slice nn ds,r)
 | .agg ps,r=>(.agg (fillDs ps r).1,(fillDs ps r).2)
 | .iface t p,r=>(.iface t (fillD p r).1,(fillD p r).2)
 | .nilIface,r=>(.nilIface,r)
 | .fn f,r=>(.fn f,r)
 | .nilFunc,r=>(.nilFunc,r)
 | .nilPtr,r=>(.nilPtr,r)
 | _,r=>(.nilFunc,r)
def fillDs:List PD→List Leaf→List D×List Leaf
 | [],r=>([],r)
 | p::ps,r=>((fillD p r).1::(fillDs ps (fillD p r).2).1,(fillDs ps (fillD p r).2).2)
end
mutual
theorem takeD_ok:∀(p:PD) (x:D) (ls rest:List Leaf),takeD p x=some ls→fillD p (ls++rest)=(x,rest)
 | .x,x,ls,rest,h=>by simp[takeD] at h;subst h;rfl
 | .int k,x,ls,rest,h=>by cases x<;>simp[takeD] at h;obtain⟨rfl,rfl⟩:=h;rfl
 | .bool,x,ls,rest,h=>by cases x<;>simp[takeD] at h;subst h;rfl
 | .str,x,ls,rest,h=>by cases x<;>simp[takeD] at h;subst h;rfl
 | .slice,x,ls,rest,h=>by cases x<;>simp[takeD] at h;subst h;rfl
 | .agg ps,x,ls,rest,h=>by
  cases x<;>simp[takeD] at h
  have:=takeDs_ok ps _ ls rest h
  simp[fillD,this]
 | .iface t p,x,ls,rest,h=>by
  cases x<;>simp[takeD] at h
  obtain⟨rfl,h⟩:=h
  have:=takeD_ok p _ ls rest h
  simp[fillD,this]
 | .nilIface,x,ls,rest,h=>by cases x<;>simp[takeD] at h;subst h;simp[fillD]
 | .fn f,x,ls,rest,h=>by cases x<;>simp[takeD] at h;obtain⟨rfl,rfl⟩:=h;simp[fillD]
 | .nilFunc,x,ls,rest,h=>by cases x<;>simp[takeD] at h;subst h;simp[fillD]
 | .nilPtr,x,ls,rest,h=>by cases x<;>simp[takeD] at h;subst h;simp[fillD]
theorem takeDs_ok:∀(ps:List PD) (xs:List D) (ls rest:List Leaf),takeDs ps xs=some ls→fillDs ps (ls++rest)=(xs,rest)
 | [],xs,ls,rest,h=>by cases xs<;>simp[takeDs] at h;subst h;simp[fillDs]
 | p::ps,xs,ls,rest,h=>by
  cases xs with
  | nil=>simp[takeDs] at h
  | cons x xs=>
   simp only[takeDs] at h
   split at h
   ·rename_i l hl
    split at h
    ·rename_i l' hl'
     simp only[Option.some.injEq] at h
     subst h
     have h1:=takeD_ok p x l (l'++rest) hl
     have h2:=takeDs_ok ps xs l' rest hl'
     simp[fillDs,h1,h2]
    ·simp at h
   ·simp at h
end
mutual
def takeV:PV→V→Option (List Leaf)
 | .undef,.undef=>some []
 | .d κ p,.d κ' x=>if κ=κ' then takeD p x else none
 | .agg κ ps,.agg κ' vs=>if κ=κ' then takeVs ps vs else none
 | .dtup κs p,.dtup κs' x=>if κs=κs' then takeD p x else none
 | .sref b,.sref b' off len=>if b=b' then some [.n off,.n len] else none
 | .lit e,.lit e' ds=>if e=e' then some [.l ds] else none
 | .ptr b p κ,.ptr b' p' κ'=>if b=b'∧p=p'∧κ=κ' then some [] else none
 | .cptr κ p,.cptr κ' x=>if κ=κ' then takeD p x else none
 | .func f a c,.func (.func f') a' c'=>if f=f' then match takeVs a a' with
  | some l=>match takeVs c c' with | some l'=>some (l++l') | none=>none
  | none=>none else none
 | .iface t p,.iface t' v=>if t=t' then takeV p v else none
 | .iter b,.iter b'=>if b=b' then some [] else none
 | .yield b,.yield b'=>if b=b' then some [] else none
 | .map b,.map b'=>if b=b' then some [] else none
 | .tup ps,.tup vs=>takeVs ps vs
 | _,_=>none
def takeVs:List PV→List V→Option (List Leaf)
 | [],[]=>some []
 | p::ps,x::xs=>match takeV p x with
  | some l=>match takeVs ps xs with | some l'=>some (l++l') | none=>none
  | none=>none
 | _,_=>none
end
mutual
def fillV:PV→List Leaf→V×List Leaf
 | .undef,r=>(.undef,r)
 | .d κ p,r=>(.d κ (fillD p r).1,(fillD p r).2)
 | .agg κ ps,r=>(.agg κ (fillVs ps r).1,(fillVs ps r).2)
 | .dtup κs p,r=>(.dtup κs (fillD p r).1,(fillD p r).2)
 | .sref b,.n off::.n len::r=>(.sref b off len,r)
 | .lit e,.l ds::r=>(.lit e ds,r)
 | .ptr b p κ,r=>(.ptr b p κ,r)
 | .cptr κ p,r=>(.cptr κ (fillD p r).1,(fillD p r).2)
 | .func f a c,r=>(.func (.func f) (fillVs a r).1 (fillVs c (fillVs a r).2).1,(fillVs c (fillVs a r).2).2)
 | .iface t p,r=>(.iface t (fillV p r).1,(fillV p r).2)
 | .iter b,r=>(.iter b,r)
 | .yield b,r=>(.yield b,r)
 | .map b,r=>(.map b,r)
 | .tup ps,r=>(.tup (fillVs ps r).1,(fillVs ps r).2)
 | _,r=>(.undef,r)
def fillVs:List PV→List Leaf→List V×List Leaf
 | [],r=>([],r)
 | p::ps,r=>((fillV p r).1::(fillVs ps (fillV p r).2).1,(fillVs ps (fillV p r).2).2)
end
mutual
theorem takeV_ok:∀(p:PV) (x:V) (ls rest:List Leaf),takeV p x=some ls→fillV p (ls++rest)=(x,rest)
 | .undef,x,ls,rest,h=>by cases x<;>simp[takeV] at h;subst h;simp[fillV]
 | .d κ p,x,ls,rest,h=>by
  cases x<;>simp[takeV] at h
  obtain⟨rfl,h⟩:=h
  simp[fillV,takeD_ok p _ ls rest h]
 | .agg κ ps,x,ls,rest,h=>by
  cases x<;>simp[takeV] at h
  obtain⟨rfl,h⟩:=h
  simp[fillV,takeVs_ok ps _ ls rest h]
 | .dtup κ p,x,ls,rest,h=>by
  cases x<;>simp[takeV] at h
  obtain⟨rfl,h⟩:=h
  simp[fillV,takeD_ok p _ ls rest h]
 | .sref b,x,ls,rest,h=>by cases x<;>simp[takeV] at h;obtain⟨rfl,rfl⟩:=h;rfl
 | .lit b,x,ls,rest,h=>by cases x<;>simp[takeV] at h;obtain⟨rfl,rfl⟩:=h;rfl
 | .ptr b p κ,x,ls,rest,h=>by cases x<;>simp[takeV] at h;obtain⟨⟨rfl,rfl,rfl⟩,rfl⟩:=h;simp[fillV]
 | .cptr κ p,x,ls,rest,h=>by
  cases x<;>simp[takeV] at h
  obtain⟨rfl,h⟩:=h
  simp[fillV,takeD_ok p _ ls rest h]
 | .func f a c,x,ls,rest,h=>by
  cases x with
  | func g a' c'=>
   cases g with
   | func g=>
    simp only[takeV] at h
    split at h
    ·rename_i hf
     subst hf
     split at h
     ·rename_i l hl
      split at h
      ·rename_i l' hl'
       simp only[Option.some.injEq] at h
       subst h
       have h1:=takeVs_ok a _ l (l'++rest) hl
       have h2:=takeVs_ok c _ l' rest hl'
       simp[fillV,h1,h2]
      ·simp at h
     ·simp at h
    ·simp at h
   | _=>simp[takeV] at h
  | _=>simp[takeV] at h
 | .iface t p,x,ls,rest,h=>by
  cases x<;>simp[takeV] at h
  obtain⟨rfl,h⟩:=h
  simp[fillV,takeV_ok p _ ls rest h]
 | .iter b,x,ls,rest,h=>by cases x<;>simp[takeV] at h;obtain⟨rfl,rfl⟩:=h;simp[fillV]
 | .yield b,x,ls,rest,h=>by cases x<;>simp[takeV] at h;obtain⟨rfl,rfl⟩:=h;simp[fillV]
 | .map b,x,ls,rest,h=>by cases x<;>simp[takeV] at h;obtain⟨rfl,rfl⟩:=h;simp[fillV]
 | .tup ps,x,ls,rest,h=>by
  cases x<;>simp[takeV] at h
  simp[fillV,takeVs_ok ps _ ls rest h]
theorem takeVs_ok:∀(ps:List PV) (xs:List V) (ls rest:List Leaf),takeVs ps xs=some ls→fillVs ps (ls++rest)=(xs,rest)
 | [],xs,ls,rest,h=>by cases xs<;>simp[takeVs] at h;subst h;simp[fillVs]
 | p::ps,xs,ls,rest,h=>by
  cases xs with
  | nil=>simp[takeVs] at h
  | cons x xs=>
   simp only[takeVs] at h
   split at h
   ·rename_i l hl
    split at h
    ·rename_i l' hl'
     simp only[Option.some.injEq] at h
     subst h
     have h1:=takeV_ok p x l (l'++rest) hl
     have h2:=takeVs_ok ps xs l' rest hl'
     simp[fillVs,h1,h2]
    ·simp at h
   ·simp at h
end
def takeO:PO→AObj→Option (List Leaf)
 | .var κ p,.var κ' v=>if κ=κ' then takeV p v else none
 | .row e own,.row e' own' nn ds=>if e=e'∧own=own' then some [.b nn,.l ds] else none
 | .map a e,.map a' e' es=>if a=a'∧e=e' then some [.m es] else none
 | .iter,.iter s n=>some [.s s,.n n]
 | .dead,.dead=>some []
 | .loop false f id p,.loop .ready f' id' u=>if f=f'∧id=id' then takeV p u else none
 | .loop true f id p,.loop .busy f' id' u=>if f=f'∧id=id' then takeV p u else none
 | _,_=>none
def fillO:PO→List Leaf→AObj×List Leaf
 | .var κ p,r=>(.var κ (fillV p r).1,(fillV p r).2)
 | .row e own,.b nn::.l ds::r=>(.row e own nn ds,r)
 | .map a e,.m es::r=>(.map a e es,r)
 | .iter,.s s::.n n::r=>(.iter s n,r)
 | .loop bo f id p,r=>(.loop (bif bo then .busy else .ready) f id (fillV p r).1,(fillV p r).2)
 | _,r=>(.dead,r)
theorem takeO_ok (p:PO) (x:AObj) (ls rest:List Leaf) (h:takeO p x=some ls):fillO p (ls++rest)=(x,rest):=by
 cases p with
 | var κ p=>cases x<;>simp[takeO] at h;obtain⟨rfl,h⟩:=h;simp[fillO,takeV_ok _ _ ls rest h]
 | row e own=>cases x<;>simp[takeO] at h;obtain⟨⟨rfl,rfl⟩,rfl⟩:=h;rfl
 | map a e=>cases x<;>simp[takeO] at h;obtain⟨⟨rfl,rfl⟩,rfl⟩:=h;rfl
 | iter=>cases x<;>simp[takeO] at h;subst h;rfl
 | dead=>cases x<;>simp[takeO] at h;subst h;simp[fillO]
 | loop bo f id p=>
  cases x with
  | loop st f' id' u=>
   cases bo<;>cases st<;>simp[takeO] at h
   all_goals
    obtain⟨⟨rfl,rfl⟩,h⟩:=h
    simp[fillO,takeV_ok _ _ ls rest h]
  | _=>cases bo<;>simp[takeO] at h
def takeOs:List PO→List AObj→Option (List Leaf)
 | [],[]=>some []
 | p::ps,x::xs=>match takeO p x with
  | some l=>match takeOs ps xs with | some l'=>some (l++l') | none=>none
  | none=>none
 | _,_=>none
def fillOs:List PO→List Leaf→List AObj×List Leaf
 | [],r=>([],r)
 | p::ps,r=>((fillO p r).1::(fillOs ps (fillO p r).2).1,(fillOs ps (fillO p r).2).2)
theorem takeOs_ok:∀(ps:List PO) (xs:List AObj) (ls rest:List Leaf),takeOs ps xs=some ls→fillOs ps (ls++rest)=(xs,rest)
 | [],xs,ls,rest,h=>by cases xs<;>simp[takeOs] at h;subst h;simp[fillOs]
 | p::ps,xs,ls,rest,h=>by
  cases xs with
  | nil=>simp[takeOs] at h
  | cons x xs=>
   simp only[takeOs] at h
   split at h
   ·rename_i l hl
    split at h
    ·rename_i l' hl'
     simp only[Option.some.injEq] at h
     subst h
     have h1:=takeO_ok p x l (l'++rest) hl
     have h2:=takeOs_ok ps xs l' rest hl'
     simp[fillOs,h1,h2]
    ·simp at h
   ·simp at h
def takeSt (ps:List PV) (qs:List PO) (tg0:List (Nat×Nat)) (regs:List V) (H:List AObj) (tg:List (Nat×Nat)):Option (List Leaf):=
 bif tg==tg0 then
  match takeVs ps regs with
  | some l=>match takeOs qs H with | some l'=>some (l++l') | none=>none
  | none=>none
 else none
theorem takeSt_ok {ps:List PV} {qs:List PO} {tg0:List (Nat×Nat)} {regs:List V} {H:List AObj} {tg:List (Nat×Nat)} {ls:List Leaf} (h:takeSt ps qs tg0 regs H tg=some ls) :
  tg=tg0∧regs=(fillVs ps ls).1∧H=(fillOs qs (fillVs ps ls).2).1:=by
 unfold takeSt at h
 rw[Bool.cond_eq_ite] at h
 split at h
 ·rename_i ht
  split at h
  ·rename_i l hl
   split at h
   ·rename_i l' hl'
    simp only[Option.some.injEq] at h
    subst h
    have h1:=takeVs_ok ps _ l l' hl
    have h2:=takeOs_ok qs _ l' [] hl'
    rw[List.append_nil] at h2
    exact⟨by simpa using ht,by rw[h1],by rw[h1,h2]⟩
   ·simp at h
  ·simp at h
 ·simp at h
theorem keep_keep (live:List Nat):∀(i:Nat) (regs:List V),keep live i (keep live i regs)=keep live i regs
 | _,[]=>rfl
 | i,v::vs=>by
  simp only[keep,keep_keep live (i+1) vs]
  cases live.contains i<;>rfl
theorem headSt_keep {base n0:Nat} {live:List Nat} {tg:List (Nat×Nat)} {regs:List V} {H:List AObj}:headSt base live tg n0 (keep live 0 regs) H=headSt base live tg n0 regs H:=by
 unfold headSt
 rw[keep_keep]
theorem loopN_keep {R:Type} {base n0:Nat} {live:List Nat} {tg:List (Nat×Nat)} {body:List V→List AObj→(AExit→List V→List AObj→Option R)→Option R} {n:Nat} {regs:List V} {H:List AObj} {k:AExit→List V→List AObj→Option R} :
  loopN (headSt base live tg n0) body n (keep live 0 regs) H k=loopN (headSt base live tg n0) body n regs H k:=by
 cases n with
 | zero=>rfl
 | succ n=>simp only[loopN,headSt_keep]
structure Ent where
 f:Nat
 n:Nat
 base:Nat
 id:Nat
 s:Sum
def tblOf (l:List Ent):Tbl:=fun f n base id=>match l.find? fun e=>e.f==f&&e.n==n&&e.base==base&&e.id==id with
 | some e=>some e.s
 | none=>none
def loopsIn (c:Code):List Code:=((rounds c).map fun x=>loopsOf x.2.2.1++loopsOf x.2.2.2).flatten
def loopAt (E:Env) (f id:Nat):Code:=match E.fn f with
 | some fn=>match fn.body with
  | some c=>((loopsOf c++loopsIn c).find? fun c'=>firstRegion c'==id).getD .skip
  | none=>.skip
 | none=>.skip
def oneLoop (E:Env) (f id:Nat):Bool:=match E.fn f with
 | some fn=>match fn.body with
  | some c=>((loopsOf c++loopsIn c).filter fun c'=>firstRegion c'==id).length==1
  | none=>false
 | none=>false
def loopRd (E:Env) (f id:Nat):Bool:=match E.fn f with
 | some fn=>match fn.body with
  | some c=>!((loopsOf c).any fun c'=>firstRegion c'==id)||E.rd0
  | none=>false
 | none=>false
theorem loopAt_ok {E:Env} {f id:Nat} (h:oneLoop E f id=true) {fn:Func} {c c':Code} (hf:E.fn f=some fn) (hb:fn.body=some c) (hc:c'∈loopsOf c++loopsIn c) (hi:firstRegion c'=id):c'=loopAt E f id:=by
 unfold oneLoop at h
 unfold loopAt
 rw[hf] at h ⊢
 simp only[hb] at h ⊢
 have hm:c'∈(loopsOf c++loopsIn c).filter fun c'=>firstRegion c'==id:=List.mem_filter.2 ⟨hc,by simpa using hi⟩
 obtain⟨x,hx⟩:=List.length_eq_one_iff.1 (beq_iff_eq.1 h)
 rw[hx] at hm
 have h1:c'=x:=by simpa using hm
 rw[←List.head?_filter,hx]
 simp[h1]
theorem loopRd_out {E:Env} {f id:Nat} {fn:Func} {c c':Code} (hf:E.fn f=some fn) (hb:fn.body=some c) (hc:c'∈loopsOf c) (hi:firstRegion c'=id):loopRd E f id=E.rd0:=by
 unfold loopRd
 rw[hf]
 simp only[hb]
 have:(loopsOf c).any (fun c'=>firstRegion c'==id)=true:=List.any_eq_true.2 ⟨c',hc,by simpa using hi⟩
 rw[this];simp
theorem loopRd_in {E:Env} {f id:Nat} (h:oneLoop E f id=true) {fn:Func} {c c':Code} (hf:E.fn f=some fn) (hb:fn.body=some c) (hc:c'∈loopsIn c) (hi:firstRegion c'=id):loopRd E f id=true:=by
 unfold oneLoop at h
 unfold loopRd
 rw[hf] at h ⊢
 simp only[hb] at h ⊢
 cases ha:(loopsOf c).any (fun c'=>firstRegion c'==id) with
 | false=>rfl
 | true=>
  obtain⟨y,hy,hyi⟩:=List.any_eq_true.1 ha
  rw[List.filter_append,List.length_append] at h
  have h1:0<((loopsOf c).filter fun c'=>firstRegion c'==id).length:=List.length_pos_iff.2 (List.ne_nil_of_mem (List.mem_filter.2 ⟨hy,hyi⟩))
  have h2:0<((loopsIn c).filter fun c'=>firstRegion c'==id).length:=List.length_pos_iff.2 (List.ne_nil_of_mem (List.mem_filter.2 ⟨hc,by simpa using hi⟩))
  simp at h
  omega
theorem AllOk.nil {E:Env}:AllOk E (tblOf []):=fun f fn c n base _ _=>⟨fun c' _ s hs=>by simp[tblOf] at hs,fun _ _=>⟨fun c' _ s hs=>by simp[tblOf] at hs,fun c' _ s hs=>by simp[tblOf] at hs⟩⟩
theorem AllOk.add {E:Env} {l:List Ent} (h:AllOk E (tblOf l)) (e:Ent) (h1:oneLoop E e.f e.id=true) (hs:SumOk (loopRd E e.f e.id) E (call E e.n) e.f e.base (loopAt E e.f e.id) e.s):AllOk E (tblOf (e::l)):=by
 intro f fn c n base hf hb
 obtain⟨h0,h0'⟩:=h f fn c n base hf hb
 have key:∀(rd:Bool) (c':Code),(c'∈loopsOf c++loopsIn c)→(∀id,e.f=f→oneLoop E f id=true→firstRegion c'=id→loopRd E f id=rd)→(∀s,tblOf l f n base (firstRegion c')=some s→SumOk rd E (call E n) f base c' s) →
   ∀s,tblOf (e::l) f n base (firstRegion c')=some s→SumOk rd E (call E n) f base c' s:=by
  intro rd c' hc hrd hk s h2
  simp only[tblOf,List.find?_cons] at h2
  cases hm:(e.f==f&&e.n==n&&e.base==base&&e.id==firstRegion c') with
  | true=>
   rw[hm] at h2
   simp only[Bool.and_eq_true,beq_iff_eq] at hm
   obtain⟨⟨⟨rfl,rfl⟩,rfl⟩,hid⟩:=hm
   simp only[Option.some.injEq] at h2
   subst h2
   rw[hrd e.id rfl h1 hid.symm] at hs
   rw[loopAt_ok h1 hf hb hc hid.symm]
   exact hs
  | false=>
   rw[hm] at h2
   exact hk s h2
 refine⟨fun c' hc s h2=>key E.rd0 c' (List.mem_append_left _ hc) (fun id _ _ hi=>loopRd_out hf hb hc hi) (h0 c' hc) s h2,fun x hx=>?_⟩
 have hin:∀c',c'∈loopsOf x.2.2.1++loopsOf x.2.2.2→c'∈loopsIn c:=fun c' hc=>List.mem_flatten.2 ⟨_,List.mem_map.2 ⟨x,hx,rfl⟩,hc⟩
 obtain⟨k1,k2⟩:=h0' x hx
 exact⟨fun c' hc s h2=>key true c' (List.mem_append_right _ (hin c' (List.mem_append_left _ hc))) (fun id _ ho hi=>loopRd_in ho hf hb (hin c' (List.mem_append_left _ hc)) hi) (k1 c' hc) s h2,
  fun c' hc s h2=>key true c' (List.mem_append_right _ (hin c' (List.mem_append_right _ hc))) (fun id _ ho hi=>loopRd_in ho hf hb (hin c' (List.mem_append_right _ hc)) hi) (k2 c' hc) s h2⟩
theorem loopsOf_trans:∀(c:Code) (c' c'':Code),c'∈loopsOf c→c''∈loopsOf c'→c''∈loopsOf c
 | .seq a b,c',c'',h,k=>by
  simp only[loopsOf,List.mem_append] at h ⊢
  rcases h with h | h
  ·exact .inl (loopsOf_trans a c' c'' h k)
  ·exact .inr (loopsOf_trans b c' c'' h k)
 | .cond _ a b,c',c'',h,k=>by
  simp only[loopsOf,List.mem_append] at h ⊢
  rcases h with h | h
  ·exact .inl (loopsOf_trans a c' c'' h k)
  ·exact .inr (loopsOf_trans b c' c'' h k)
 | .block _ c,c',c'',h,k=>by
  simp only[loopsOf] at h ⊢
  exact loopsOf_trans c c' c'' h k
 | .loop c,c',c'',h,k=>by
  simp only[loopsOf,List.mem_cons] at h ⊢
  rcases h with rfl | h
  ·exact .inr k
  ·exact .inr (loopsOf_trans c c' c'' h k)
 | .skip,_,_,h,_=>by simp[loopsOf] at h
 | .region ..,_,_,h,_=>by simp[loopsOf] at h
 | .ret,_,_,h,_=>by simp[loopsOf] at h
 | .exit _,_,_,h,_=>by simp[loopsOf] at h
 | .label _,_,_,h,_=>by simp[loopsOf] at h
 | .scope _,_,_,h,_=>by simp[loopsOf] at h
 | .rangeFunc ..,_,_,h,_=>by simp[loopsOf] at h
 | .goto _,_,_,h,_=>by simp[loopsOf] at h
 | .refuse _,_,_,h,_=>by simp[loopsOf] at h
theorem loopAt_mem {E:Env} {f id:Nat} (h:oneLoop E f id=true):∃fn c,E.fn f=some fn∧fn.body=some c∧loopAt E f id∈loopsOf c++loopsIn c∧firstRegion (loopAt E f id)=id:=by
 unfold oneLoop at h
 unfold loopAt
 split at h
 ·rename_i fn hf
  split at h
  ·rename_i c hb
   refine⟨fn,c,hf,hb,?_⟩
   obtain⟨x,hx⟩:=List.length_eq_one_iff.1 (beq_iff_eq.1 h)
   rw[←List.head?_filter,hx]
   have hm:x∈(loopsOf c++loopsIn c).filter fun c'=>firstRegion c'==id:=by rw[hx];simp
   rw[List.mem_filter] at hm
   exact⟨hm.1,by simpa using hm.2⟩
  ·simp at h
 ·simp at h
def loopM {R:Type} (head:List V→List AObj→Option (List V×List AObj)) (body:List V→List AObj→(AExit→List V→List AObj→Option R)→Option R) :
  Nat→List V→List AObj→(AExit→List V→List AObj→Option R)→Option R
 | 0,regs,H,k=>body regs H fun e r h=>match e with
  | .normal=>none
  | .ret=>k .ret r h
  | .exit id=>k (.exit id) r h
 | n+1,regs,H,k=>body regs H fun e r h=>match e with
  | .normal=>match head r h with | some p=>loopM head body n p.1 p.2 k | none=>none
  | .ret=>k .ret r h
  | .exit id=>k (.exit id) r h
theorem loopN_eq {R:Type} {head:List V→List AObj→Option (List V×List AObj)} {body:List V→List AObj→(AExit→List V→List AObj→Option R)→Option R} {k:AExit→List V→List AObj→Option R} :
  ∀(n:Nat) (regs:List V) (H:List AObj),loopN head body (n+1) regs H k=match head regs H with | some p=>loopM head body n p.1 p.2 k | none=>none
 | 0,regs,H=>by
  simp only[loopN,loopM]
  cases head regs H<;>rfl
 | n+1,regs,H=>by
  rw[loopN]
  cases head regs H with
  | none=>rfl
  | some p=>
   simp only[loopM]
   congr 1
   funext e r h
   cases e with
   | normal=>exact loopN_eq n r h
   | _=>rfl
theorem loop_core {E:Env} {T:Tbl} (hT:AllOk E T) {M f n base id n0:Nat} (h1:oneLoop E f id=true) (hM:E.fuel=M+1) {regs:List V} {H:List AObj} {tg:List (Nat×Nat)} {k:Kont} {r:D} (hl:H.length=n0)
  (hh:headSt base (E.hint f id).live tg n0 (keep (E.hint f id).live 0 regs) H=some (keep (E.hint f id).live 0 regs,H))
  (h:loopM (headSt base (E.hint f id).live tg n0) (fun r h k'=>evT (loopRd E f id) E (callS E T n) f (T f n base) (loopAt E f id) r h (cutK (E.hint f id).out k')) M (keep (E.hint f id).live 0 regs) H k=some r) :
  loopN (headSt base (E.hint f (firstRegion (loopAt E f id))).live tg H.length) (fun r h k'=>ev (loopRd E f id) E (call E n) f base (loopAt E f id) r h (cutK (E.hint f (firstRegion (loopAt E f id))).out k')) E.fuel regs H k=some r:=by
 obtain⟨fn,cf,hf,hb,hin,hid⟩:=loopAt_mem h1
 have hTl:TblOk (loopRd E f id) E (call E n) f base (T f n base) (loopAt E f id):=by
  obtain⟨t1,t2⟩:=hT f fn cf n base hf hb
  rcases List.mem_append.1 hin with hin | hin
  ·rw[loopRd_out hf hb hin hid]
   exact fun c' hc=>t1 c' (loopsOf_trans cf _ _ hin hc)
  ·rw[loopRd_in h1 hf hb hin hid]
   obtain⟨l,hl,hil⟩:=List.mem_flatten.1 hin
   obtain⟨x,hx,rfl⟩:=List.mem_map.1 hl
   obtain⟨k1,k2⟩:=t2 x hx
   rcases List.mem_append.1 hil with hil | hil
   ·exact fun c' hc=>k1 c' (loopsOf_trans _ _ _ hil hc)
   ·exact fun c' hc=>k2 c' (loopsOf_trans _ _ _ hil hc)
 have k4:loopN (headSt base (E.hint f id).live tg n0) (fun r h k'=>evT (loopRd E f id) E (callS E T n) f (T f n base) (loopAt E f id) r h (cutK (E.hint f id).out k')) (M+1) (keep (E.hint f id).live 0 regs) H k=some r:=by
  rw[loopN_eq,hh]
  exact h
 rw[loopN_keep] at k4
 rw[hid,hM,hl]
 exact loopN_le (fun r hh k k' hk=>evT_le (callS_le hT n) (call_mono n) _ hTl r hh _ _ (cutK_le hk)) _ _ _ _ _ (fun _ _ _=>Le.refl _) r k4
def us:Nat→List V→List V
 | 0,l=>l
 | n+1,l=>.undef::us n l
def up:Nat→List PV→List PV
 | 0,l=>l
 | n+1,l=>.undef::up n l
def goS {S X:Type} (st:S→(S→Option D)→(X→Option D)→Option D):Nat→S→(X→Option D)→Option D
 | 0,s,K=>st s (fun _=>none) K
 | N+1,s,K=>st s (fun s'=>goS st N s' K) K
def kontL (hd:List V→List AObj→Option (List V×List AObj)) (nx:List V→List AObj→Option D) (k:Kont):Kont:=fun e r h=>match e with
 | .normal=>match hd r h with | some p=>nx p.1 p.2 | none=>none
 | .ret=>k .ret r h
 | .exit id=>k (.exit id) r h
structure Shape (S:Type) where
 ps:List PV
 qs:List PO
 of:List Leaf→Option S
def pickS {S:Type} (tg0:List (Nat×Nat)) (regs:List V) (H:List AObj) (tg:List (Nat×Nat)):List (Shape S)→Option S
 | []=>none
 | p::l=>match takeSt p.ps p.qs tg0 regs H tg with
  | some ls=>p.of ls
  | none=>pickS tg0 regs H tg l
def noSum:Sum:=fun _ _ _ _=>none
def sumJ {S X:Type} (live:List Nat) (sh:List (Shape S)) (tg0:List (Nat×Nat)) (st:S→(S→Option D)→(X→Option D)→Option D) (ex:Kont→X→Option D) (M:Nat) (els:Sum):Sum:=
 fun regs H tg k=>match pickS tg0 (keep live 0 regs) H tg sh with
  | some s=>goS st M s (ex k)
  | none=>els regs H tg k
def ShapesOk {S:Type} (V0:S→List V) (H0:S→List AObj):List (Shape S)→Prop
 | []=>True
 | p::l=>(∀ls s,p.of ls=some s→(fillVs p.ps ls).1=V0 s∧(fillOs p.qs (fillVs p.ps ls).2).1=H0 s)∧ShapesOk V0 H0 l
theorem pickS_ok {S:Type} {V0:S→List V} {H0:S→List AObj} {tg0:List (Nat×Nat)} {regs:List V} {H:List AObj} {tg:List (Nat×Nat)} {s:S}:∀{sh:List (Shape S)},ShapesOk V0 H0 sh→pickS tg0 regs H tg sh=some s→tg=tg0∧regs=V0 s∧H=H0 s
 | [],_,h=>by simp[pickS] at h
 | p::l,hs,h=>by
  simp only[pickS] at h
  split at h
  ·rename_i ls hls
   obtain⟨rfl,h3,h4⟩:=takeSt_ok hls
   obtain⟨k1,k2⟩:=hs.1 ls s h
   exact⟨rfl,h3.trans k1,h4.trans k2⟩
  ·exact pickS_ok hs.2 h
theorem noSum_ok {rd:Bool} {E:Env} {inl:Inl D} {f base:Nat} {c:Code}:SumOk rd E inl f base c noSum:=fun _ _ _ _ _ h=>by simp[noSum] at h
theorem oldSum_ok {E:Env} {T:Tbl} (hT:AllOk E T) {f n base id:Nat} {s:Sum} (h1:oneLoop E f id=true) (h:T f n base id=some s):SumOk (loopRd E f id) E (call E n) f base (loopAt E f id) s:=by
 obtain⟨fn,cf,hf,hb,hin,hid⟩:=loopAt_mem h1
 obtain⟨t1,t2⟩:=hT f fn cf n base hf hb
 rw[←hid] at h
 rcases List.mem_append.1 hin with hin | hin
 ·rw[loopRd_out hf hb hin hid]
  exact t1 _ hin s h
 ·rw[loopRd_in h1 hf hb hin hid]
  obtain⟨l,hl,hil⟩:=List.mem_flatten.1 hin
  obtain⟨x,hx,rfl⟩:=List.mem_map.1 hl
  obtain⟨k1,k2⟩:=t2 x hx
  rcases List.mem_append.1 hil with hil | hil
  ·exact k1 _ hil s h
  ·exact k2 _ hil s h
theorem sumOkJ {S X:Type} {E:Env} {T:Tbl} (hT:AllOk E T) {M f n base id n0:Nat} {V0:S→List V} {H0:S→List AObj} {sh:List (Shape S)} {tg0:List (Nat×Nat)} {st:S→(S→Option D)→(X→Option D)→Option D} {ex:Kont→X→Option D} {els:Sum}
  (h1:oneLoop E f id=true) (hM:E.fuel=M+1) (hsh:ShapesOk V0 H0 sh) (hlen:∀s,(H0 s).length=n0) (hhead:∀s,headSt base (E.hint f id).live tg0 n0 (V0 s) (H0 s)=some (V0 s,H0 s))
  (hst:∀s nx k,evT (loopRd E f id) E (callS E T n) f (T f n base) (loopAt E f id) (V0 s) (H0 s) (cutK (E.hint f id).out (kontL (headSt base (E.hint f id).live tg0 n0) nx k))=st s (fun s'=>nx (V0 s') (H0 s')) (ex k))
  (hels:SumOk (loopRd E f id) E (call E n) f base (loopAt E f id) els) :
  SumOk (loopRd E f id) E (call E n) f base (loopAt E f id) (sumJ (E.hint f id).live sh tg0 st ex M els):=by
 intro regs H tg k r hr
 unfold sumJ at hr
 split at hr
 ·rename_i s hs
  obtain⟨rfl,h3,h4⟩:=pickS_ok hsh hs
  have key:∀N s,loopM (headSt base (E.hint f id).live tg n0) (fun r h k'=>evT (loopRd E f id) E (callS E T n) f (T f n base) (loopAt E f id) r h (cutK (E.hint f id).out k')) N (V0 s) (H0 s) k=goS st N s (ex k):=by
   intro N
   induction N with
   | zero=>
    intro s
    have h:=hst s (fun _ _=>none) k
    simp only[goS]
    rw[←h]
    simp only[loopM]
    congr 1
    funext e r h
    unfold kontL
    cases e with
    | normal=>simp only[cutK];split<;>rfl
    | ret=>rfl
    | exit id=>rfl
   | succ N ih=>
    intro s
    have h:=hst s (fun r h=>loopM (headSt base (E.hint f id).live tg n0) (fun r h k'=>evT (loopRd E f id) E (callS E T n) f (T f n base) (loopAt E f id) r h (cutK (E.hint f id).out k')) N r h k) k
    simp only[goS]
    rw[show (fun s'=>goS st N s' (ex k))=fun s'=>loopM (headSt base (E.hint f id).live tg n0) (fun r h k'=>evT (loopRd E f id) E (callS E T n) f (T f n base) (loopAt E f id) r h (cutK (E.hint f id).out k')) N (V0 s') (H0 s') k from funext fun s'=>(ih s').symm]
    rw[←h]
    simp only[loopM]
    rfl
  refine loop_core hT h1 hM (n0:=n0) (by rw[h4];exact hlen s) (by rw[h3,h4];exact hhead s) ?_
  rw[h3,h4,key]
  exact hr
 ·exact hels regs H tg k r hr
theorem AllOk.addJ {S X:Type} {E:Env} {l:List Ent} (hT:AllOk E (tblOf l)) {M f n base id n0:Nat} {live:List Nat} (V0:S→List V) (H0:S→List AObj) {sh:List (Shape S)} {tg0:List (Nat×Nat)} {st:S→(S→Option D)→(X→Option D)→Option D} {ex:Kont→X→Option D} {els:Sum}
  (h1:(oneLoop E f id&&(E.hint f id).live==live)=true) (hM:E.fuel=M+1) (hels:els=noSum∨tblOf l f n base id=some els) (hsh:ShapesOk V0 H0 sh) (hlen:∀s,(H0 s).length=n0) (hhead:∀s,headSt base (E.hint f id).live tg0 n0 (V0 s) (H0 s)=some (V0 s,H0 s))
  (hst:∀s nx k,evT (loopRd E f id) E (callS E (tblOf l) n) f (tblOf l f n base) (loopAt E f id) (V0 s) (H0 s) (cutK (E.hint f id).out (kontL (headSt base (E.hint f id).live tg0 n0) nx k))=st s (fun s'=>nx (V0 s') (H0 s')) (ex k)) :
  AllOk E (tblOf (⟨f,n,base,id,sumJ live sh tg0 st ex M els⟩::l)):=by
 simp only[Bool.and_eq_true,beq_iff_eq] at h1
 obtain⟨h1,rfl⟩:=h1
 refine hT.add ⟨f,n,base,id,sumJ (E.hint f id).live sh tg0 st ex M els⟩ h1 (sumOkJ hT h1 hM hsh hlen hhead hst ?_)
 rcases hels with rfl | h
 ·exact noSum_ok
 ·exact oldSum_ok hT h1 h
def sumS {S X:Type} (live:List Nat) (ps:List PV) (qs:List PO) (tg0:List (Nat×Nat)) (of:List Leaf→Option S) (st:S→(S→Option D)→(X→Option D)→Option D) (ex:Kont→X→Option D) (M:Nat):Sum:=
 sumJ live [⟨ps,qs,of⟩] tg0 st ex M noSum
theorem AllOk.addS {S X:Type} {E:Env} {l:List Ent} (hT:AllOk E (tblOf l)) {M f n base id n0:Nat} {live:List Nat} {ps:List PV} {qs:List PO} {tg0:List (Nat×Nat)} {of:List Leaf→Option S} {lv:S→List Leaf} {st:S→(S→Option D)→(X→Option D)→Option D} {ex:Kont→X→Option D}
  (h1:(oneLoop E f id&&(E.hint f id).live==live)=true) (hM:E.fuel=M+1) (hof:∀ls s,of ls=some s→ls=lv s)
  (hlen:∀s,(fillOs qs (fillVs ps (lv s)).2).1.length=n0)
  (hhead:∀s,headSt base (E.hint f id).live tg0 n0 (fillVs ps (lv s)).1 (fillOs qs (fillVs ps (lv s)).2).1=some ((fillVs ps (lv s)).1,(fillOs qs (fillVs ps (lv s)).2).1))
  (hst:∀s nx k,evT (loopRd E f id) E (callS E (tblOf l) n) f (tblOf l f n base) (loopAt E f id) (fillVs ps (lv s)).1 (fillOs qs (fillVs ps (lv s)).2).1 (cutK (E.hint f id).out (kontL (headSt base (E.hint f id).live tg0 n0) nx k))=st s (fun s'=>nx (fillVs ps (lv s')).1 (fillOs qs (fillVs ps (lv s')).2).1) (ex k)) :
  AllOk E (tblOf (⟨f,n,base,id,sumS live ps qs tg0 of st ex M⟩::l)):=
 AllOk.addJ hT (fun s=>(fillVs ps (lv s)).1) (fun s=>(fillOs qs (fillVs ps (lv s)).2).1) (sh:=[⟨ps,qs,of⟩]) h1 hM (.inl rfl) ⟨fun ls s h=>by rw[hof ls s h];exact⟨rfl,rfl⟩,trivial⟩ hlen hhead hst
end Go.AM
namespace Go.AM
open Go
def nI (n:Nat):Int:=n
def ltI (a b:Int):Bool:=decide (a<b)
def leI (a b:Int):Bool:=decide (a≤b)
def gtI (a b:Int):Bool:=decide (a>b)
def geI (a b:Int):Bool:=decide (a≥b)
def eqI (a b:Int):Bool:=a==b
def neI (a b:Int):Bool:=a != b
def inb (i:Int) (n:Nat):Bool:=decide (0≤i)&&decide (i<(n:Int))
def leN (a b:Nat):Bool:=decide (a≤b)
def eqN (a b:Nat):Bool:=decide (a=b)
def mx (n:Nat):Bool:=decide (n≤maxLen)
def ix (l:List D) (n:Nat):D:=l.getD n .nilFunc
def ap (a b:List D):List D:=a++b
def rp (n:Nat) (d:D):List D:=List.replicate n d
def ad (k:IntKind) (a b:Int):Int:=k.wrap (a+b)
def sb (k:IntKind) (a b:Int):Int:=k.wrap (a-b)
def ml (k:IntKind) (a b:Int):Int:=k.wrap (a*b)
def cv (k:IntKind) (a:Int):Int:=k.wrap a
def shlI (k:IntKind) (a:Int) (n:Nat):Int:=k.wrap (a*2^(min n k.bits))
def shrI (k:IntKind) (a:Int) (n:Nat):Int:=a.fdiv (2^(min n k.bits))
def andI (k:IntKind) (a b:Int):Int:=k.wrap (BitVec.ofInt k.bits a &&& BitVec.ofInt k.bits b).toNat
def orI (k:IntKind) (a b:Int):Int:=k.wrap (BitVec.ofInt k.bits a ||| BitVec.ofInt k.bits b).toNat
def xorI (k:IntKind) (a b:Int):Int:=k.wrap (BitVec.ofInt k.bits a ^^^ BitVec.ofInt k.bits b).toNat
def andNotI (k:IntKind) (a b:Int):Int:=k.wrap (BitVec.ofInt k.bits a &&& ~~~(BitVec.ofInt k.bits b)).toNat
def notI (k:IntKind) (a:Int):Int:=k.wrap (BitVec.ofInt k.bits (if k.signed then -1 else k.max) ^^^ BitVec.ofInt k.bits a).toNat
def maxi (a b:Int):Int:=if b>a then b else a
def mini (a b:Int):Int:=if b<a then b else a
def quoI (k:IntKind) (a b:Int):Int:=k.wrap (a.tdiv b)
def remI (a b:Int):Int:=a.tmod b
def eqS (a b:ByteArray):Bool:=a.toList==b.toList
def ltS (a b:ByteArray):Bool:=Op.bytesLess a.toList b.toList
def cat (a b:ByteArray):Option D:=if a.size+b.size≤maxInt then some (.str (a++b)) else none
def bs (l:List UInt8):ByteArray:=⟨l.toArray⟩
def bd (o:Option D) (f:D→Option D):Option D:=match o with | some r=>f r | none=>none
def bdB (x:D) (f:Bool→Option D):Option D:=match x with | .bool b=>f b | _=>none
def bdq (o:Option (Option Nat)) (f:Option Nat→Option D):Option D:=match o with | some r=>f r | none=>none
abbrev di (x:Int):D:=.int .i64 x
abbrev db (x:Bool):D:=.bool x
abbrev dS (x:ByteArray):D:=.str x
abbrev da (l:List D):D:=.agg l
abbrev dl (b:Bool) (l:List D):D:=.slice b l
abbrev vi (x:Int):V:=.d (.int .i64) (.int .i64 x)
abbrev vb (x:Bool):V:=.d .bool (.bool x)
abbrev vS (x:ByteArray):V:=.d .str (.str x)
abbrev vk (k:K) (x:D):V:=.d k x
abbrev v0:V:=.tup []
end Go.AM
namespace Go.AM
open Go Go.RowKit
def K.flat (ty:Nat→K):Nat→K→Bool
 | _,.bool=>true
 | _,.int _=>true
 | _,.str=>true
 | _,.func=>true
 | n+1,.struct fs=>fs.all fun f=>K.flat ty n (ty f)
 | n+1,.array _ e=>K.flat ty n (ty e)
 | _,_=>false
section
variable {ty:Nat→K}
mutual
theorem has_flat:∀(d:D) (n:Nat) (κ:K),D.has ty d κ→K.flat ty n κ=true→d.noMem=true
 | .bool _,_,_,_,_=>rfl
 | .int _ _,_,_,_,_=>rfl
 | .str _,_,_,_,_=>rfl
 | .agg ds,n,κ,h,hf=>by
  simp only[D.has] at h
  simp only[D.noMem]
  obtain⟨h1,h2⟩:=h
  cases κ<;>simp[K.isAgg] at h1
  ·cases n with
   | zero=>simp[K.flat] at hf
   | succ n=>
    simp only[K.flat,List.all_eq_true] at hf
    refine hass_flat ds n _ h2 fun κ hκ=>?_
    simp only[K.kids,List.mem_map] at hκ
    obtain⟨f,hfm,rfl⟩:=hκ
    exact hf f hfm
  ·cases n with
   | zero=>simp[K.flat] at hf
   | succ n=>
    simp only[K.flat] at hf
    refine hass_flat ds n _ h2 fun κ hκ=>?_
    simp only[K.kids] at hκ
    rw[List.eq_of_mem_replicate hκ]
    exact hf
 | .slice nn ds,n,κ,h,hf=>by
  simp only[D.has] at h
  obtain⟨e,rfl,_⟩:=h
  cases n<;>simp[K.flat] at hf
 | .iface t x,n,κ,h,hf=>by
  simp only[D.has] at h
  obtain⟨⟨m,rfl⟩,_⟩:=h
  cases n<;>simp[K.flat] at hf
 | .nilIface,_,_,_,_=>rfl
 | .fn _,_,_,_,_=>rfl
 | .nilFunc,_,_,_,_=>rfl
 | .nilPtr,_,_,_,_=>rfl
 | .nilMap,_,_,_,_=>rfl
 | .tup _,_,_,h,_=>by simp[D.has] at h
theorem hass_flat:∀(ds:List D) (n:Nat) (κs:List K),D.hass ty ds κs→(∀κ∈κs,K.flat ty n κ=true)→D.noMems ds=true
 | [],_,_,_,_=>rfl
 | d::ds,n,κs,h,hf=>by
  simp only[D.hass] at h
  obtain⟨κ,κs',rfl,h1,h2⟩:=h
  simp only[D.noMems,Bool.and_eq_true]
  exact⟨has_flat d n κ h1 (hf κ (by simp)),hass_flat ds n κs' h2 fun κ hκ=>hf κ (by simp[hκ])⟩
end
theorem res_flat {M:Mem} {ts:List Nat} {r:D} {v:Value} {n:Nat} (h:ResRep ty M ts r v) (hf:ts.all (fun t=>K.flat ty n (ty t))=true):r.noMem=true:=by
 rw[List.all_eq_true] at hf
 unfold ResRep at h
 split at h
 ·rename_i t
  exact has_flat r n _ (rep_has _ _ _ h) (hf t (by simp))
 ·obtain⟨ds,xs,rfl,_,hE⟩:=h
  simp only[D.noMem]
  refine hass_flat ds n _ (each_has _ _ _ hE) fun κ hκ=>?_
  simp only[List.mem_map] at hκ
  obtain⟨t,ht,rfl⟩:=hκ
  exact hf t ht
variable {P:Program} {I:World→Prop} {gl:Nat}
theorem contract_flat (hgl:∀w,I w→gl≤w.heap.size) {f:Nat} {fn:Func} {run:List D→Option D} {n:Nat} {p:Bool}
  (hp:p=true→fn.resultTypes.toList.all (fun t=>K.flat ty n (ty t))=true)
  (hrun:∀ds r,D.hass ty ds (fn.params.toList.map ty)→run ds=some r→Comes P ty I gl f fn ds r finish):Contract P ty I f fn { run:=run,fresh:=false,plain:=p }:=by
 have h0:Contract P ty I f fn { run:=run,fresh:=false,plain:=false }:=contract_of hgl rfl hrun (by simp)
 intro X w ds xs r hIw hX hE hr
 refine(h0 X w ds xs r hIw hX hE hr).mono ?_
 rintro e w' ⟨v,rfl,hb,hres⟩
 refine⟨v,rfl,hb,?_⟩
 simp only[Bool.false_eq_true,if_false] at hres ⊢
 cases p with
 | false=>simpa using hres
 | true=>
  simp only[if_true]
  exact fun M=>noMem_res (res_flat hres (hp rfl)) hres
theorem has_int {d:D} {k:IntKind} (h:D.has ty d (.int k)):∃n,d = .int k n:=by
 cases d<;>simp[D.has,K.isAgg] at h
 subst h;exact⟨_,rfl⟩
theorem has_bool {d:D} (h:D.has ty d .bool):∃n,d = .bool n:=by cases d<;>simp[D.has,K.isAgg] at h;exact⟨_,rfl⟩
theorem has_str {d:D} (h:D.has ty d .str):∃n,d = .str n:=by cases d<;>simp[D.has,K.isAgg] at h;exact⟨_,rfl⟩
theorem hass_nil {ds:List D} (h:D.hass ty ds []):ds=[]:=by cases ds<;>simp[D.hass] at h;rfl
theorem hass_cons {ds:List D} {κ:K} {κs:List K} (h:D.hass ty ds (κ::κs)):∃d ds',ds=d::ds'∧D.has ty d κ∧D.hass ty ds' κs:=by
 cases ds with
 | nil=>simp[D.hass] at h
 | cons d ds=>
  simp only[D.hass] at h
  obtain⟨κ',κs',hc,h1,h2⟩:=h
  simp only[List.cons.injEq] at hc
  obtain⟨rfl,rfl⟩:=hc
  exact⟨d,ds,rfl,h1,h2⟩
abbrev ArgT:K→Type
 | .str=>ByteArray
 | .int _=>Int
 | .bool=>Bool
 | _=>D
def argD:(κ:K)→ArgT κ→D
 | .str,x=>.str x
 | .int k,x=>.int k x
 | .bool,x=>.bool x
 | .struct _,x=>x
 | .array _ _,x=>x
 | .slice _,x=>x
 | .map _ _,x=>x
 | .iface _,x=>x
 | .ptr _,x=>x
 | .func,x=>x
 | .bad,x=>x
def Args:List K→Type
 | []=>Unit
 | κ::κs=>ArgT κ×Args κs
def Args.ds:(κs:List K)→Args κs→List D
 | [],_=>[]
 | κ::κs,a=>argD κ a.1::Args.ds κs a.2
theorem has_argD {d:D}:∀{κ:K},D.has ty d κ→∃a:ArgT κ,d=argD κ a
 | .str,h=>has_str h
 | .int _,h=>has_int h
 | .bool,h=>has_bool h
 | .struct _,_=>⟨d,rfl⟩
 | .array _ _,_=>⟨d,rfl⟩
 | .slice _,_=>⟨d,rfl⟩
 | .map _ _,_=>⟨d,rfl⟩
 | .iface _,_=>⟨d,rfl⟩
 | .ptr _,_=>⟨d,rfl⟩
 | .func,_=>⟨d,rfl⟩
 | .bad,_=>⟨d,rfl⟩
theorem hass_args:∀{κs:List K} {ds:List D},D.hass ty ds κs→∃a:Args κs,ds=Args.ds κs a
 | [],_,h=>⟨(),hass_nil h⟩
 | κ::κs,_,h=>by
  obtain⟨d,ds',rfl,h1,h2⟩:=hass_cons h
  obtain⟨a,rfl⟩:=has_argD h1
  obtain⟨b,rfl⟩:=hass_args h2
  exact⟨(a,b),rfl⟩
theorem okC (hgl:∀w,I w→gl≤w.heap.size) {E:Env} {T:Tbl} {f n dp:Nat} {fn:Func} {run:List D→Option D} {p:Bool} {κs:List K} {ts:List Nat}
  (hs:fn.params.toList.map ty=κs) (hr:fn.resultTypes.toList=ts) (hp:(!p||ts.all fun t=>K.flat ty n (ty t))=true) (hE:EnvOk P E I gl) (hty:E.ty=ty) (hpan:E.pan=none) (hT:AllOk E T)
  (h:∀a:Args κs,callS E T dp (.fn f) (List.zipWith V.d κs (Args.ds κs a)) [] (fun v H=>finish ty ts v H)=run (Args.ds κs a)):Contract P ty I f fn { run:=run,plain:=p }:=by
 subst hs hr
 refine contract_flat (n:=n) hgl (fun h'=>by subst h';simpa using hp) (fun ds r hh hr=>?_)
 obtain⟨a,rfl⟩:=hass_args hh
 exact⟨E,dp,T,hE,hty,hpan,hT,(h a).trans hr⟩
theorem okF (hgl:∀w,I w→gl≤w.heap.size) {E:Env} {T:Tbl} {f dp:Nat} {fn:Func} {run:List D→Option D} {κs:List K} {ts:List Nat}
  (hs:fn.params.toList.map ty=κs) (hr:fn.resultTypes.toList=ts) (hE:EnvOk P E I gl) (hty:E.ty=ty) (hpan:E.pan=none) (hT:AllOk E T)
  (h:∀a:Args κs,callS E T dp (.fn f) (List.zipWith V.d κs (Args.ds κs a)) [] (fun v H=>finishFresh ty ts v H)=run (Args.ds κs a)):Contract P ty I f fn { run:=run,fresh:=true }:=by
 subst hs hr
 refine contract_of_fresh hgl rfl rfl (fun ds r hh hr=>?_)
 obtain⟨a,rfl⟩:=hass_args hh
 exact⟨E,dp,T,hE,hty,hpan,hT,(h a).trans hr⟩
end
end Go.AM
