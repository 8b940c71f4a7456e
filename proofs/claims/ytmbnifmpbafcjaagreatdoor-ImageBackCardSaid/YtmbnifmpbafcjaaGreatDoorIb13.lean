/- Part 13 of the proof: the abstract machine, what the functions compute, and plain laws over that. -/
import Derived.Test.YtmbnifmpbafcjaaGreatDoorIb12
import Derived.KernelRfl
set_option linter.all false
set_option linter.unusedSimpArgs false
set_option linter.unusedVariables false
set_option linter.unusedSectionVars false
set_option linter.all false
namespace Go.AM.SY
open Go Go.AM
def inR (o f t:Int) (x:It):Bool:=decide (x.own.i=o)&&(decide (f≤x.lg)&&decide (x.lg<t))
def JB (B:List It) (o f t:Int):List UInt8:=(B.filter (inR o f t)).flatMap fun x=>x.tx.data.toList
theorem JB_app (A B:List It) (o f t:Int):JB (A++B) o f t=JB A o f t++JB B o f t:=by
 unfold JB;rw[List.filter_append,List.flatMap_append]
theorem JB_one (x:It) (o f t:Int):JB [x] o f t=if inR o f t x=true then x.tx.data.toList else []:=by
 unfold JB
 by_cases h:inR o f t x=true
 ·rw[if_pos h,List.filter_cons,if_pos h];simp
 ·rw[if_neg h,List.filter_cons,if_neg h];rfl
theorem JB_le (B:List It) (o f t:Int) (hx:∀x∈B,x.tx.size≤300):(JB B o f t).length≤B.length*300:=by
 unfold JB
 have h1:=flat_le (fun x:It=>x.tx.data.toList) 300 (B.filter (inR o f t)) fun x h=>by rw[toList_size];exact hx x (List.mem_filter.1 h).1
 have h2:(B.filter (inR o f t)).length≤B.length:=List.length_filter_le _ _
 exact Nat.le_trans h1 (Nat.mul_le_mul_right _ h2)
theorem JB_succ {B:List It} {k:Nat} (h:k<B.length) (o f t:Int):JB (B.take (k+1)) o f t=JB (B.take k) o f t++(if inR o f t B[k]=true then B[k].tx.data.toList else []):=by
 rw[List.take_succ_eq_append_getElem h,JB_app,JB_one]
theorem join_spec (b:Bool) (B:List It) (o f t:Int) (hl:B.length≤400) (hx:∀x∈B,x.tx.size≤300):F117.s FUEL (dl b (B.map It.enc)) o f t=some (dS (bs (JB B o f t))):=by
 suffices h:∀Post:Option D→Prop,Post (some (dS (bs (JB B o f t))))→Post (F117.s FUEL (dl b (B.map It.enc)) o f t) from h (fun R=>R=some (dS (bs (JB B o f t)))) rfl
 intro Post hPost
 unfold F117.s
 simp only[elems_slice,List.length_map]
 have hJ:∀k,(JB (B.take k) o f t).length≤120000:=by
  intro k
  have h1:=JB_le (B.take k) o f t fun x h=>hx x (List.mem_of_mem_take h)
  have h2:(B.take k).length≤400:=by rw[List.length_take];omega
  have h3:(B.take k).length*300≤400*300:=Nat.mul_le_mul_right _ h2
  omega
 refine goS_rule (fun s:F117.S3=>∃k,k≤B.length∧((s = .s0 o f t (dl b (B.map It.enc)) (nI B.length) (k:Int) 0 0 false []∧JB (B.take k) o f t=[])∨∃a c b' l,s = .s1 o f t (dl b (B.map It.enc)) (nI B.length) (k:Int) a c b' l∧BRow a c l (JB (B.take k) o f t)∧(b'=true→0<c)))
  (fun s=>match s with | .s0 _ _ _ _ _ i _ _ _ _=>B.length-i.toNat | .s1 _ _ _ _ _ i _ _ _ _=>B.length-i.toNat) Post ?_ _ _ ⟨0,by omega,.inl ⟨rfl,by simp[JB]⟩⟩ (by simp[FUEL];omega)
 rintro _ rec ⟨k,hk,⟨rfl,hn⟩ | ⟨a,c,b',l,rfl,hf,hb⟩⟩ hrec
 ·simp only[F117.st3]
  by_cases h1:k<B.length
  ·have hadd:ad .i64 (k:Int) 1=((k+1:Nat):Int):=by rw[ad64 (by omega) (by omega)];rfl
   have hs:=JB_succ h1 o f t
   have htx:=hx _ (List.getElem_mem h1)
   refine pct (by simp;omega) (pct (by simp;omega) ?_)
   simp only[elems_slice,Int.toNat_natCast,ix_map h1]
   have e0:(B[k].enc.at 0).i=B[k].lg:=rfl
   have e1:(B[k].enc.at 1).i=B[k].own.i:=rfl
   have e2:(B[k].enc.at 2).s=B[k].tx:=rfl
   rw[e0,e1,e2,hadd]
   have skip:inR o f t B[k]=false→Post (rec (.s0 o f t (dl b (B.map It.enc)) (nI B.length) ((k+1:Nat):Int) 0 0 false [])):=by
    intro h
    refine hrec _ ⟨k+1,by omega,.inl ⟨rfl,?_⟩⟩ (by simp;omega)
    rw[hs,hn,h];rfl
   by_cases c1:B[k].own.i=o
   case neg=>exact pcf (by simpa using c1) (skip (by simp[inR,c1]))
   refine pct (by simpa using c1) ?_
   by_cases c2:f≤B[k].lg
   case neg=>exact pcf (by simp;omega) (skip (by simp[inR,c2]))
   refine pct (by simpa using c2) ?_
   by_cases c3:B[k].lg<t
   case neg=>exact pcf (by simp;omega) (skip (by simp[inR,c3]))
   refine pct (by simpa using c3) (pct (by simp[byte_len];omega) ?_)
   have hF:=BRow.nil.ap B[k].tx.data.toList
   rw[bs_of] at hF
   have hin:inR o f t B[k]=true:=by simp[inR,c1,c2,c3]
   refine hrec _ ⟨k+1,by omega,.inr ⟨0,_,_,_,rfl,?_,?_⟩⟩ (by simp;omega)
   ·rw[hs,hn,hin];exact hF
   ·intro h
    cases hz:bytesOf B[k].tx with
    | nil=>rw[hz] at h;simp at h
    | cons x l=>simp
  ·refine pcf (by simp;omega) ?_
   have hke:k=B.length:=by omega
   subst hke
   rw[List.take_length] at hn
   rw[hn] at hPost
   exact pct rfl hPost
 ·simp only[F117.st3]
  have hcl:=hf.len
  have hJk:=hJ k
  by_cases h1:k<B.length
  ·have hadd:ad .i64 (k:Int) 1=((k+1:Nat):Int):=by rw[ad64 (by omega) (by omega)];rfl
   have hs:=JB_succ h1 o f t
   have htx:=hx _ (List.getElem_mem h1)
   refine pct (by simp;omega) (pct (by simp;omega) ?_)
   simp only[elems_slice,Int.toNat_natCast,ix_map h1]
   have e0:(B[k].enc.at 0).i=B[k].lg:=rfl
   have e1:(B[k].enc.at 1).i=B[k].own.i:=rfl
   have e2:(B[k].enc.at 2).s=B[k].tx:=rfl
   rw[e0,e1,e2,hadd]
   have skip:inR o f t B[k]=false→Post (rec (.s1 o f t (dl b (B.map It.enc)) (nI B.length) ((k+1:Nat):Int) a c b' l)):=by
    intro h
    refine hrec _ ⟨k+1,by omega,.inr ⟨a,c,b',l,rfl,?_,hb⟩⟩ (by simp;omega)
    rw[hs,h]
    simpa using hf
   by_cases c1:B[k].own.i=o
   case neg=>exact pcf (by simpa using c1) (skip (by simp[inR,c1]))
   refine pct (by simpa using c1) ?_
   by_cases c2:f≤B[k].lg
   case neg=>exact pcf (by simp;omega) (skip (by simp[inR,c2]))
   refine pct (by simpa using c2) ?_
   by_cases c3:B[k].lg<t
   case neg=>exact pcf (by simp;omega) (skip (by simp[inR,c3]))
   refine pct (by simpa using c3) (pct (by simp[byte_len];omega) ?_)
   have hF:=hf.ap B[k].tx.data.toList
   rw[bs_of] at hF
   have hin:inR o f t B[k]=true:=by simp[inR,c1,c2,c3]
   refine hrec _ ⟨k+1,by omega,.inr ⟨0,_,_,_,rfl,?_,?_⟩⟩ (by simp;omega)
   ·rw[hs,hin];exact hF
   ·intro h
    cases hz:bytesOf B[k].tx with
    | nil=>rw[hz] at h;simp at h;have:=hb h;simp;omega
    | cons x l=>simp;omega
  ·refine pcf (by simp;omega) ?_
   have hke:k=B.length:=by omega
   subst hke
   rw[List.take_length] at hf
   refine pct (builder_ok hb (by omega)) ?_
   rw[hf.of]
   exact hPost
def rdH:Nat→ByteArray→Option (List ByteArray×ByteArray)
 | 0,s=>some ([],s)
 | k+1,s=>match gT s 100 with
  | none=>none
  | some x=>match rdH k x.2 with
   | none=>none
   | some y=>some (x.1::y.1,y.2)
def rdF (B:List It) (s:ByteArray):Option (Fl×ByteArray):=
 match gN s with
 | none=>none
 | some x1=>if 134217728<x1.1 then none else match gT x1.2 100 with
  | none=>none
  | some x2=>match gN x2.2 with
   | none=>none
   | some x3=>if 1<x3.1 then none else match gN x3.2 with
    | none=>none
    | some x4=>if 1125899906842624<x4.1 then none else match gN x4.2 with
     | none=>none
     | some x5=>if 600<x5.1 then none else if ((JB B x1.1 (4096*x1.1) (4096*(x1.1+1))).length:Int)<x5.1 then none else match gN x5.2 with
      | none=>none
      | some x6=>if 4<x6.1 then none else match rdH x6.1.toNat x6.2 with
       | none=>none
       | some x7=>some (⟨x1.1,x2.1,(bs (JB B x1.1 (4096*x1.1) (4096*(x1.1+1)))).extract 0 x5.1.toNat,eqI x3.1 1,x4.1,decide (0<x6.1.toNat),x7.1⟩,x7.2)
def rdFs (B:List It):Nat→ByteArray→Option (List Fl×ByteArray)
 | 0,s=>some ([],s)
 | k+1,s=>match rdF B s with
  | none=>none
  | some x=>match rdFs B k x.2 with
   | none=>none
   | some y=>some (x.1::y.1,y.2)
def rdL:Nat→ByteArray→Option (List Ev×ByteArray)
 | 0,s=>some ([],s)
 | k+1,s=>match gT s 400 with
  | none=>none
  | some x=>match gE x.1 with
   | none=>none
   | some y=>if y.2=bs [] then (match rdL k x.2 with
    | none=>none
    | some z=>some (y.1::z.1,z.2)) else none
def rdA (B:List It):Option (St×Bool×List Ev):=
 match gN (bs (JB B 0 0 1000)) with
 | none=>none
 | some x1=>if 1125899906842624<x1.1 then none else match gN x1.2 with
  | none=>none
  | some x2=>if 1125899906842624<x2.1 then none else match gN x2.2 with
   | none=>none
   | some x3=>if 12<x3.1 then none else match gN x3.2 with
    | none=>none
    | some x4=>if 400<x4.1 then none else match rdFs B x3.1.toNat x4.2 with
     | none=>none
     | some x5=>match rdL x4.1.toNat (bs (JB B 0 1000 4096)) with
      | none=>none
      | some x6=>some (⟨decide (0<x3.1.toNat),x5.1,x1.1,x2.1⟩,decide (0<x4.1.toNat),x6.1)
def bad22:D:=.tup [(da [(dl false []),(di 0),(di 0)]),(dl false []),(db false)]
theorem holds_in {S X:Type} {st:S→(S→Option D)→(X→Option D)→Option D} {mk:Int→D→Nat→Nat→Bool→List D→S} {ex:D→Nat→Nat→Bool→List D→X} {n:Int}
  (hst:∀i d g f b l rec K,st (mk i d g f b l) rec K=(cond (ltI i n) (bd (F155.s FUEL d.s 100) fun j=>(cond (!(j.at 2).b) (some bad22) (cond (((Nat.beq g g)&&(Nat.beq f f))&&true) (cond (mx (f+1)) (rec (mk (ad .i64 i 1) (j.at 1) 0 (f+1) (b||true) (ap ((l.drop g).take f) [(j.at 0)]))) none) none))) (K (ex d g f b l))))
  {Post:Option D→Prop} (K:X→Option D):∀(k i:Nat) (s:ByteArray) (g f:Nat) (b:Bool) (l L:List D) (N:Nat),((i+k:Nat):Int)=n→i+k≤1000→k+1≤N→f+k≤1000→s.size≤1048576→RowIs g f l L →
   (rdH k s=none→Post (some bad22)) →
   (∀hs r g' f' b' l',rdH k s=some (hs,r)→r.size≤s.size→(∀x∈hs,x.size≤1000)→hs.length=k→RowIs g' f' l' (L++hs.map dS)→b'=(b||decide (0<k))→Post (K (ex (dS r) g' f' b' l')))→Post (goS st N (mk (i:Int) (dS s) g f b l) K)
 | 0,i,s,g,f,b,l,L,N,hn,hi,hN,hf,hs,hr,hb,hK=>by
  obtain⟨N,rfl⟩:∃m',N=m'+1:=⟨N-1,by omega⟩
  simp only[goS]
  rw[hst]
  exact pcf (by simp;omega) (hK [] s g f b l rfl (Nat.le_refl _) (by simp) rfl (by simpa using hr) (by simp))
 | k+1,i,s,g,f,b,l,L,N,hn,hi,hN,hf,hs,hr,hb,hK=>by
  obtain⟨N,rfl⟩:∃m',N=m'+1:=⟨N-1,by omega⟩
  simp only[goS]
  rw[hst]
  have hadd:ad .i64 (i:Int) 1=((i+1:Nat):Int):=by rw[ad64 (by omega) (by omega)];rfl
  refine pct (by simp;omega) ?_
  simp only[s_str]
  rcases gT_cases s 100 hs with ⟨t,r,e1,e2,h1,h2⟩ | ⟨e1,t,r,e2⟩
  ·refine pbd e2 (pcf rfl (pct (by simp) (pct (by simp;omega) ?_)))
   rw[hadd]
   have a0:(D.tup [dS t,dS r,db true]).at 0=dS t:=rfl
   have a1:(D.tup [dS t,dS r,db true]).at 1=dS r:=rfl
   rw[a0,a1]
   refine holds_in hst K k (i+1) r 0 (f+1) (b||true) _ _ N (by omega) (by omega) (by omega) (by omega) (by omega) (hr.ap (dS t)) (fun h=>hb (by rw[rdH,e1];dsimp only;rw[h])) (fun hs' r' g' f' b' l' h hrs hsz hln hrow hbb=>?_)
   refine hK (t::hs') r' g' f' b' l' (by rw[rdH,e1];dsimp only;rw[h]) (by omega) ?_ (by rw[List.length_cons,hln]) ?_ (by rw[hbb];simp)
   ·intro y hy
    rcases List.mem_cons.1 hy with rfl | hy
    ·omega
    ·exact hsz y hy
   ·rw[List.append_assoc] at hrow
    exact hrow
  ·exact pbd e2 (pct rfl (hb (by rw[rdH,e1])))
theorem log_in {S X:Type} {st:S→(S→Option D)→(X→Option D)→Option D} {mk:Int→D→Nat→Nat→Bool→List D→S} {ex:D→Nat→Nat→Bool→List D→X} {n:Int}
  (hst:∀i d g f b l rec K,st (mk i d g f b l) rec K=(cond (ltI i n) (bd (F155.s FUEL d.s 400) fun q=>(cond (!(q.at 2).b) (some bad22) (bd (F121.s FUEL (q.at 0).s) fun j=>(cond (!(j.at 2).b) (some bad22) (cond (!(eqS (j.at 1).s (bs []))) (some bad22) (cond (mx (f+1)) (rec (mk (ad .i64 i 1) (q.at 1) 0 (f+1) (b||true) (ap ((l.drop g).take f) [(j.at 0)]))) none)))))) (K (ex d g f b l))))
  {Post:Option D→Prop} (K:X→Option D):∀(k i:Nat) (s:ByteArray) (g f:Nat) (b:Bool) (l L:List D) (N:Nat),((i+k:Nat):Int)=n→i+k≤1000→k+1≤N→f+k≤1000→s.size≤1048576→RowIs g f l L →
   (rdL k s=none→Post (some bad22)) →
   (∀hs r g' f' b' l',rdL k s=some (hs,r)→(∀e∈hs,EvW e)→hs.length=k→RowIs g' f' l' (L++hs.map Ev.enc)→b'=(b||decide (0<k))→Post (K (ex (dS r) g' f' b' l')))→Post (goS st N (mk (i:Int) (dS s) g f b l) K)
 | 0,i,s,g,f,b,l,L,N,hn,hi,hN,hf,hs,hr,hb,hK=>by
  obtain⟨N,rfl⟩:∃m',N=m'+1:=⟨N-1,by omega⟩
  simp only[goS]
  rw[hst]
  exact pcf (by simp;omega) (hK [] s g f b l rfl (by simp) rfl (by simpa using hr) (by simp))
 | k+1,i,s,g,f,b,l,L,N,hn,hi,hN,hf,hs,hr,hb,hK=>by
  obtain⟨N,rfl⟩:∃m',N=m'+1:=⟨N-1,by omega⟩
  simp only[goS]
  rw[hst]
  have hadd:ad .i64 (i:Int) 1=((i+1:Nat):Int):=by rw[ad64 (by omega) (by omega)];rfl
  refine pct (by simp;omega) ?_
  simp only[s_str]
  rcases gT_cases s 400 hs with ⟨t,r,e1,e2,h1,h2⟩ | ⟨e1,t,r,e2⟩
  case inr=>exact pbd e2 (pct rfl (hb (by rw[rdL,e1])))
  refine pbd e2 (pcf rfl ?_)
  rw[hadd]
  have a0:(D.tup [dS t,dS r,db true]).at 0=dS t:=rfl
  have a1:(D.tup [dS t,dS r,db true]).at 1=dS r:=rfl
  rw[a0,a1]
  simp only[s_str]
  rcases gE_cases t (by omega) with ⟨e,r2,x1,x2,x3,x4⟩ | ⟨x1,t2,r2,x2⟩
  case inr=>exact pbd x2 (pct rfl (hb (by rw[rdL,e1];dsimp only;rw[x1])))
  refine pbd x2 (pcf rfl ?_)
  have b0:(D.tup [e.enc,dS r2,db true]).at 0=e.enc:=rfl
  have b1:((D.tup [e.enc,dS r2,db true]).at 1).s=r2:=rfl
  rw[b0,b1]
  by_cases hr2:r2=bs []
  case neg=>exact pct (by simpa using hr2) (hb (by rw[rdL,e1];dsimp only;rw[x1];dsimp only;rw[if_neg hr2]))
  refine pcf (by simpa using hr2) (pct (by simp;omega) ?_)
  refine log_in hst K k (i+1) r 0 (f+1) (b||true) _ _ N (by omega) (by omega) (by omega) (by omega) (by omega) (hr.ap e.enc) (fun h=>hb (by rw[rdL,e1];dsimp only;rw[x1];dsimp only;rw[if_pos hr2,h])) (fun hs' r' g' f' b' l' h hev hln hrow hbb=>?_)
  refine hK (e::hs') r' g' f' b' l' (by rw[rdL,e1];dsimp only;rw[x1];dsimp only;rw[if_pos hr2,h]) ?_ (by rw[List.length_cons,hln]) ?_ (by rw[hbb];simp)
  ·intro y hy
   rcases List.mem_cons.1 hy with rfl | hy
   ·exact x4
   ·exact hev y hy
  ·rw[List.append_assoc] at hrow
   exact hrow
end Go.AM.SY
set_option linter.all false
namespace Go.AM.SY
open Go Go.AM
theorem tup0 (a b c:D):(D.tup [a,b,c]).at 0=a:=rfl
theorem tup1 (a b c:D):(D.tup [a,b,c]).at 1=b:=rfl
theorem files_in {Post:Option D→Prop} (K:F22.X69_5→Option D) (nb:Bool) (B:List It) (hl:B.length≤400) (hx:∀x∈B,x.tx.size≤300) (ne la fl:D) (n:Int):∀(k i:Nat) (s:ByteArray) (g f:Nat) (b:Bool) (row L:List D) (N:Nat),((i+k:Nat):Int)=n→i+k≤1000→k+1≤N→f+k≤1000→s.size≤1048576→RowIs g f row L →
   (rdFs B k s=none→Post (some bad22)) →
   (∀fs r g' f' b' row',rdFs B k s=some (fs,r)→(∀f∈fs,LitF f)→fs.length=k→RowIs g' f' row' (L++fs.map Fl.enc)→b'=(b||decide (0<k))→Post (K (.e0 (dl nb (B.map It.enc)) 0 0 ne false [] 0 0 false [] false g' f' la fl (dS r) b' row' false []))) →
   Post (goS (F22.st69_5 FUEL) N ⟨dl nb (B.map It.enc),0,0,ne,di n,(i:Int),false,[],0,0,false,[],false,g,f,la,fl,dS s,b,row,false,[]⟩ K)
 | 0,i,s,g,f,b,row,L,N,hn,hi,hN,hf,hs,hr,hb,hK=>by
  obtain⟨N,rfl⟩:∃m',N=m'+1:=⟨N-1,by omega⟩
  simp only[goS,F22.st69_5]
  exact pcf (by simp;omega) (hK [] s g f b row rfl (by simp) rfl (by simpa using hr) (by simp))
 | k+1,i,s,g,f,b,row,L,N,hn,hi,hN,hf,hs,hr,hb,hK=>by
  obtain⟨N,rfl⟩:∃m',N=m'+1:=⟨N-1,by omega⟩
  simp only[goS,F22.st69_5]
  have hadd:ad .i64 (i:Int) 1=((i+1:Nat):Int):=by rw[ad64 (by omega) (by omega)];rfl
  have hb':rdF B s=none→Post (some bad22):=fun h=>hb (by rw[rdFs,h])
  refine pct (by simp;omega) ?_
  simp only[s_str]
  rcases gN_cases s hs with ⟨id,s1,e1,q1,h1,p1⟩ | ⟨e1,_,_,q1⟩
  case inr=>exact pbd q1 (pct rfl (hb' (by simp only[rdF,e1])))
  refine pbd q1 (pcf rfl ?_)
  simp only[tup0,tup1,i_int,s_str]
  by_cases c1:134217728<id
  ·exact pct (by simpa using c1) (hb' (by simp only[rdF,e1,if_pos c1]))
  refine pcf (by simp;omega) ?_
  rcases gT_cases s1 100 (by omega) with ⟨nm,s2,e2,q2,h2,p2⟩ | ⟨e2,_,_,q2⟩
  case inr=>exact pbd q2 (pct rfl (hb' (by simp only[rdF,e1,if_neg c1,e2])))
  refine pbd q2 (pcf rfl ?_)
  simp only[tup0,tup1,i_int,s_str]
  rcases gN_cases s2 (by omega) with ⟨se,s3,e3,q3,h3,p3⟩ | ⟨e3,_,_,q3⟩
  case inr=>exact pbd q3 (pct rfl (hb' (by simp only[rdF,e1,if_neg c1,e2,e3])))
  refine pbd q3 (pcf rfl ?_)
  simp only[tup0,tup1,i_int,s_str]
  by_cases c3:1<se
  ·exact pct (by simpa using c3) (hb' (by simp only[rdF,e1,if_neg c1,e2,e3,if_pos c3]))
  refine pcf (by simp;omega) ?_
  rcases gN_cases s3 (by omega) with ⟨un,s4,e4,q4,h4,p4⟩ | ⟨e4,_,_,q4⟩
  case inr=>exact pbd q4 (pct rfl (hb' (by simp only[rdF,e1,if_neg c1,e2,e3,if_neg c3,e4])))
  refine pbd q4 (pcf rfl ?_)
  simp only[tup0,tup1,i_int,s_str]
  by_cases c4:1125899906842624<un
  ·exact pct (by simpa using c4) (hb' (by simp only[rdF,e1,if_neg c1,e2,e3,if_neg c3,e4,if_pos c4]))
  refine pcf (by simp;omega) ?_
  have hj:=join_spec nb B id (4096*id) (4096*(id+1)) hl hx
  rw[ml64 (by omega) (by omega),ad64 (by omega) (by omega),ml64 (by omega) (by omega)]
  refine pbd hj ?_
  obtain⟨J,hJ⟩:∃J,J=JB B id (4096*id) (4096*(id+1)):=⟨_,rfl⟩
  rw[←hJ]
  simp only[s_str]
  rcases gN_cases s4 (by omega) with ⟨ln,s5,e5,q5,h5,p5⟩ | ⟨e5,_,_,q5⟩
  case inr=>exact pbd q5 (pct rfl (hb' (by simp only[rdF,e1,if_neg c1,e2,e3,if_neg c3,e4,if_neg c4,e5])))
  refine pbd q5 (pcf rfl ?_)
  simp only[tup0,tup1,i_int,s_str]
  by_cases c5:600<ln
  ·exact pct (by simpa using c5) (hb' (by simp only[rdF,e1,if_neg c1,e2,e3,if_neg c3,e4,if_neg c4,e5,if_pos c5]))
  refine pcf (by simp;omega) ?_
  by_cases c6:(J.length:Int)<ln
  ·refine pct (by simp;omega) (hb' ?_)
   rw[hJ] at c6
   simp only[rdF,e1,if_neg c1,e2,e3,if_neg c3,e4,if_neg c4,e5,if_neg c5,if_pos c6]
  refine pcf (by simp;omega) (pct (by simp;omega) (pct (by simp;omega) ?_))
  have c6':=c6
  rw[hJ] at c6'
  rcases gN_cases s5 (by omega) with ⟨nh,s6,e6,q6,h6,p6⟩ | ⟨e6,_,_,q6⟩
  case inr=>exact pbd q6 (pct rfl (hb' (by simp only[rdF,e1,if_neg c1,e2,e3,if_neg c3,e4,if_neg c4,e5,if_neg c5,if_neg c6',e6])))
  refine pbd q6 (pcf rfl ?_)
  simp only[tup0,tup1,i_int,s_str]
  by_cases c7:4<nh
  ·exact pct (by simpa using c7) (hb' (by simp only[rdF,e1,if_neg c1,e2,e3,if_neg c3,e4,if_neg c4,e5,if_neg c5,if_neg c6',e6,if_pos c7]))
  refine pcf (by simp;omega) ?_
  refine holds_in (st:=F22.st69_12 FUEL) (n:=nh)
   (mk:=fun i2 d g2 f2 b2 l2=>⟨dl nb (B.map It.enc),0,0,ne,di n,(i:Int),di nh,i2,false,[],0,0,false,[],false,g,f,la,fl,d,b,row,false,[],di id,dS nm,(bs J).extract 0 ln.toNat,eqI se 1,di un,g2,f2,(bs J).extract ln.toNat (bs J).size,b2,l2⟩)
   (ex:=fun d g2 f2 b2 l2=>.e0 (dl nb (B.map It.enc)) 0 0 ne (di n) (i:Int) false [] 0 0 false [] false g f la fl d b row false [] (di id) (dS nm) ((bs J).extract 0 ln.toNat) (eqI se 1) (di un) g2 f2 ((bs J).extract ln.toNat (bs J).size) b2 l2)
   (fun _ _ _ _ _ _ _ _=>rfl) _ nh.toNat 0 s6 0 0 false [] [] FUEL (by omega) (by omega) (by simp only[FUEL];omega) (by omega) (by omega) ⟨rfl,rfl⟩ (fun h=>hb' ?_) (fun hs2 s7 g' f' b' l' h7 hrs hsz hln hrow hbb=>?_)
  ·simp only[rdF,e1,if_neg c1,e2,e3,if_neg c3,e4,if_neg c4,e5,if_neg c5,if_neg c6',e6,if_neg c7,h]
  ·have hF:rdF B s=some (⟨id,nm,(bs J).extract 0 ln.toNat,eqI se 1,un,decide (0<nh.toNat),hs2⟩,s7):=by
    rw[hJ]
    simp only[rdF,e1,if_neg c1,e2,e3,if_neg c3,e4,if_neg c4,e5,if_neg c5,if_neg c6',e6,if_neg c7,h7]
   have hlit:LitF ⟨id,nm,(bs J).extract 0 ln.toNat,eqI se 1,un,decide (0<nh.toNat),hs2⟩:=by
    refine⟨by show nm.size≤1000;omega,hsz,fun h=>?_⟩
    have h0:¬0<nh.toNat:=by simpa using h
    show hs2=[]
    exact List.eq_nil_of_length_eq_zero (by omega)
   refine pct (by simp;omega) ?_
   have hrowe:=hrow.eq
   rw[List.nil_append] at hrowe
   rw[hadd,hrowe,hbb,Bool.false_or]
   have hA:=hr.ap (Fl.enc ⟨id,nm,(bs J).extract 0 ln.toNat,eqI se 1,un,decide (0<nh.toNat),hs2⟩)
   refine files_in K nb B hl hx ne la fl n k (i+1) s7 0 (f+1) (b||true) _ _ N (by omega) (by omega) (by omega) (by omega) (by omega) hA (fun h=>hb (by rw[rdFs,hF];dsimp only;rw[h])) (fun fs r g'' f'' b'' row' h hlf hlen hrow2 hb2=>?_)
   refine hK (_::fs) r g'' f'' b'' row' (by rw[rdFs,hF];dsimp only;rw[h]) ?_ (by rw[List.length_cons,hlen]) ?_ (by rw[hb2];simp)
   ·intro y hy
    rcases List.mem_cons.1 hy with rfl | hy
    ·exact hlit
    ·exact hlf y hy
   ·rw[List.append_assoc] at hrow2
    exact hrow2
def tail22 (room:Int) (d0 sD lD:D):Option D:=bd (F17.s FUEL sD lD room) fun J=>(bdB (J.at 1) fun ao=>(cond ao (bd (F70.s FUEL (J.at 0) d0) fun L=>(cond (!L.b) (some bad22) (some (D.tup [sD,lD,L])))) (some bad22)))
set_option maxHeartbeats 1000000 in
theorem get_img {Post:Option D→Prop} (nb:Bool) (B:List It) (hl:B.length≤400) (hx:∀x∈B,x.tx.size≤300) (room:Int) (h0:rdA B=none→Post (some bad22))
  (h1:∀s nn ev,rdA B=some (s,nn,ev)→LitS s→(∀e∈ev,EvW e)→Post (tail22 room (dl nb (B.map It.enc)) s.enc (dl nn (ev.map Ev.enc)))):Post (F22.s FUEL (dl nb (B.map It.enc)) room):=by
 have hJ:∀o f t,(JB B o f t).length≤120000:=by
  intro o f t
  have h1:=JB_le B o f t hx
  have h3:B.length*300≤400*300:=Nat.mul_le_mul_right _ hl
  omega
 have hJ0:=hJ 0 0 1000
 have hJ1:=hJ 0 1000 4096
 unfold F22.s
 refine pbd (join_spec nb B 0 0 1000 hl hx) ?_
 obtain⟨s0,hs0⟩:∃s0,s0=bs (JB B 0 0 1000):=⟨_,rfl⟩
 have hz0:s0.size≤120000:=by rw[hs0,bsz];exact hJ0
 rw[←hs0]
 simp only[s_str]
 rcases gN_cases s0 (by omega) with ⟨la,s1,e1,q1,z1,p1⟩ | ⟨e1,_,_,q1⟩
 case inr=>rw[hs0] at e1;rw[hs0] at q1;rw[hs0];exact pbd q1 (pct rfl (h0 (by simp only[rdA,e1])))
 refine pbd q1 (pcf rfl ?_)
 simp only[tup0,tup1,i_int,s_str]
 rw[hs0] at e1
 by_cases c1:1125899906842624<la
 ·exact pct (by simpa using c1) (h0 (by simp only[rdA,e1,if_pos c1]))
 refine pcf (by simp;omega) ?_
 rcases gN_cases s1 (by omega) with ⟨fl,s2,e2,q2,z2,p2⟩ | ⟨e2,_,_,q2⟩
 case inr=>exact pbd q2 (pct rfl (h0 (by simp only[rdA,e1,if_neg c1,e2])))
 refine pbd q2 (pcf rfl ?_)
 simp only[tup0,tup1,i_int,s_str]
 by_cases c2:1125899906842624<fl
 ·exact pct (by simpa using c2) (h0 (by simp only[rdA,e1,if_neg c1,e2,if_pos c2]))
 refine pcf (by simp;omega) ?_
 rcases gN_cases s2 (by omega) with ⟨nf,s3,e3,q3,z3,p3⟩ | ⟨e3,_,_,q3⟩
 case inr=>exact pbd q3 (pct rfl (h0 (by simp only[rdA,e1,if_neg c1,e2,if_neg c2,e3])))
 refine pbd q3 (pcf rfl ?_)
 simp only[tup0,tup1,i_int,s_str]
 by_cases c3:12<nf
 ·exact pct (by simpa using c3) (h0 (by simp only[rdA,e1,if_neg c1,e2,if_neg c2,e3,if_pos c3]))
 refine pcf (by simp;omega) ?_
 rcases gN_cases s3 (by omega) with ⟨ne,s4,e4,q4,z4,p4⟩ | ⟨e4,_,_,q4⟩
 case inr=>exact pbd q4 (pct rfl (h0 (by simp only[rdA,e1,if_neg c1,e2,if_neg c2,e3,if_neg c3,e4])))
 refine pbd q4 (pcf rfl ?_)
 simp only[tup0,tup1,i_int,s_str]
 by_cases c4:400<ne
 ·exact pct (by simpa using c4) (h0 (by simp only[rdA,e1,if_neg c1,e2,if_neg c2,e3,if_neg c3,e4,if_pos c4]))
 refine pcf (by simp;omega) ?_
 refine files_in _ nb B hl hx (di ne) (di la) (di fl) nf nf.toNat 0 s4 0 0 false [] [] FUEL (by omega) (by omega) (by simp only[FUEL];omega) (by omega) (by omega) ⟨rfl,rfl⟩ (fun h=>h0 (by simp only[rdA,e1,if_neg c1,e2,if_neg c2,e3,if_neg c3,e4,if_neg c4,h])) (fun fs r g' f' b' row' h5 hlf hlen hrow hbb=>?_)
 have hj:=join_spec nb B 0 1000 4096 hl hx
 refine pbd hj ?_
 refine log_in (st:=F22.st69_19 FUEL) (n:=ne)
  (mk:=fun i2 d g2 f2 b2 l2=>⟨g2,f2,di ne,i2,false,[],0,0,false,[],false,g',f',di la,di fl,dS r,b',row',b2,l2,d⟩)
  (ex:=fun d g2 f2 b2 l2=>.e0 g2 f2 false [] 0 0 false [] false g' f' (di la) (di fl) (dS r) b' row' b2 l2 d)
  (fun _ _ _ _ _ _ _ _=>rfl) _ ne.toNat 0 (bs (JB B 0 1000 4096)) 0 0 false [] [] FUEL (by omega) (by omega) (by simp only[FUEL];omega) (by omega) (by rw[bsz];omega) ⟨rfl,rfl⟩ (fun h=>h0 (by simp only[rdA,e1,if_neg c1,e2,if_neg c2,e3,if_neg c3,e4,if_neg c4,h5,h])) (fun ev r2 g2 f2 b2 l2 h6 hev hlen2 hrow2 hbb2=>?_)
 have r1:=hrow.eq
 have r2:=hrow2.eq
 rw[List.nil_append] at r1 r2
 rw[hbb,hbb2,r1,r2,Bool.false_or,Bool.false_or]
 have hA:rdA B=some (⟨decide (0<nf.toNat),fs,la,fl⟩,decide (0<ne.toNat),ev):=by
  simp only[rdA,e1,if_neg c1,e2,if_neg c2,e3,if_neg c3,e4,if_neg c4,h5,h6]
 refine h1 _ _ _ hA ⟨by show fs.length≤_;omega,fun h=>?_,hlf⟩ hev
 have h0':¬0<nf.toNat:=by simpa using h
 show fs=[]
 exact List.eq_nil_of_length_eq_zero (by omega)
end Go.AM.SY
set_option linter.all false
namespace Go.AM.SY
open Go Go.AM
theorem chT_join {room:Nat} (hr:8≤room) (o:D):∀(n:Nat) (lg:Int) (l:List UInt8),l.length≤n→(chT room o lg (bs l)).flatMap (fun x=>x.tx.data.toList)=l:=by
 intro n
 induction n with
 | zero=>
  intro lg l h
  have:l=[]:=List.eq_nil_of_length_eq_zero (by omega)
  subst this
  rw[chT_nil (by rw[bsz];rfl)];rfl
 | succ n ih=>
  intro lg l h
  by_cases h0:l.length=0
  ·have:l=[]:=List.eq_nil_of_length_eq_zero h0
   subst this
   rw[chT_nil (by rw[bsz];rfl)];rfl
  ·have e:chT room o lg (bs l)=⟨lg,o,(bs l).extract 0 (min room (bs l).size)⟩::chT room o (lg+1) ((bs l).extract (min room (bs l).size) (bs l).size):=by
    rw[chT,dif_neg (by rw[bsz];omega)]
   rw[e,List.flatMap_cons,bs_ext,bs_ext,bsz,List.drop_zero,List.take_of_length_le (Nat.le_refl _)]
   rw[ih (lg+1) (l.drop (min room l.length)) (by rw[List.length_drop];omega)]
   exact List.take_append_drop _ _
theorem chT_len {room:Nat} (hr:8≤room) (o:D) (lg:Int) (s:ByteArray):(chT room o lg s).length≤s.size:=by
 have:=chunksOf_len room hr _ s o lg (Nat.le_refl _)
 rw[chunksOf_eq room o _ lg s (Nat.le_refl _),List.length_map] at this
 exact this
theorem JB_all {L:List It} {o f t:Int} (h:∀x∈L,inR o f t x=true):JB L o f t=L.flatMap fun x=>x.tx.data.toList:=by
 unfold JB;rw[List.filter_eq_self.2 h]
theorem JB_none {L:List It} {o f t:Int} (h:∀x∈L,inR o f t x=false):JB L o f t=[]:=by
 unfold JB;rw[List.filter_eq_nil_iff.2 (by intro x hx;rw[h x hx];simp)];rfl
theorem JB_files0 {room:Nat} (hr:8≤room) (o f t:Int):∀(l:List Fl),(∀g∈l,g.id≠o)→JB (filesT room l) o f t=[]
 | [],_=>rfl
 | g::l,h=>by
  have e:filesT room (g::l)=chT room (di g.id) (4096*g.id) g.data++filesT room l:=rfl
  rw[e,JB_app,JB_files0 hr o f t l fun x hx=>h x (by simp[hx]),List.append_nil]
  refine JB_none fun x hx=>?_
  have h1:=(ch_range hr (di g.id) (4096*g.id) g.data x hx).2.2
  have h2:x.own.i=g.id:=by rw[h1];rfl
  have h3:=h g (by simp)
  simp[inR,h2,h3]
theorem JB_files {room:Nat} (hr:8≤room):∀(l:List Fl),(l.Pairwise fun a b=>a.id<b.id)→(∀g∈l,g.data.size≤600)→∀f∈l,JB (filesT room l) f.id (4096*f.id) (4096*(f.id+1))=f.data.data.toList
 | [],_,_,f,hf=>by simp at hf
 | g::l,hp,hd,f,hf=>by
  obtain⟨p1,p2⟩:=List.pairwise_cons.1 hp
  have e:filesT room (g::l)=chT room (di g.id) (4096*g.id) g.data++filesT room l:=rfl
  rw[e,JB_app]
  rcases List.mem_cons.1 hf with rfl | hf
  ·rw[JB_files0 hr _ _ _ l fun x hx=>by have:=p1 x hx;omega,List.append_nil]
   have hlen:=chT_len hr (di f.id) (4096*f.id) f.data
   have hds:=hd f (by simp)
   rw[JB_all fun x hx=>?_]
   ·have:=chT_join hr (di f.id) _ (4096*f.id) f.data.data.toList (Nat.le_refl _)
    rw[bs_of] at this
    exact this
   ·obtain⟨h1,h2,h3⟩:=ch_range hr (di f.id) (4096*f.id) f.data x hx
    have h4:x.own.i=f.id:=by rw[h3];rfl
    simp[inR,h4]
    omega
  ·have hlt:=p1 f hf
   rw[JB_files hr l p2 (fun x hx=>hd x (by simp[hx])) f hf]
   have:JB (chT room (di g.id) (4096*g.id) g.data) f.id (4096*f.id) (4096*(f.id+1))=[]:=by
    refine JB_none fun x hx=>?_
    have h1:=(ch_range hr (di g.id) (4096*g.id) g.data x hx).2.2
    have h2:x.own.i=g.id:=by rw[h1];rfl
    have h3:g.id≠f.id:=by omega
    simp[inR,h2,h3]
   rw[this];rfl
def nf (f:Fl):Fl:={ f with nn:=decide (0<f.holds.length) }
def nS (s:St):St:=⟨decide (0<s.files.length),s.files.map nf,s.last,s.floor⟩
theorem rdH_ok:∀(l:List ByteArray) (t:List UInt8),(∀x∈l,nameB x=true)→(l.flatMap textL).length+t.length≤900000→rdH l.length (bs (l.flatMap textL++t))=some (l,bs t)
 | [],t,_,_=>rfl
 | x::l,t,h,hl=>by
  have hx:=name_small (h x (by simp))
  rw[List.flatMap_cons,List.length_append] at hl
  rw[List.flatMap_cons,List.append_assoc,List.length_cons,rdH,gT_ok x _ 100 (by omega) (by omega) (by rw[List.length_append];omega)]
  dsimp only
  rw[rdH_ok l t (fun y hy=>h y (by simp[hy])) (by omega)]
theorem rdF_ok (B:List It) (f:Fl) (t:List UInt8) (hf:VF f) (hid:f.id≤134217728) (hJ:JB B f.id (4096*f.id) (4096*(f.id+1))=f.data.data.toList) (ht:(fileL f).length+t.length≤900000):rdF B (bs (fileL f++t))=some (nf f,bs t):=by
 have i0:=hf.id0
 have u0:=hf.until0
 have u1:=hf.until1
 have hd:=hf.data
 have hh:=hf.hold
 have hns:=name_small hf.name
 have e:fileL f++t=numI f.id++(textL f.name++(numI (if f.sealed=true then 1 else 0)++(numI f.until_++(numI (f.data.size:Int)++(numI (f.holds.length:Int)++(f.holds.flatMap textL++t)))))):=by
  simp only[fileL,List.append_assoc]
 have hlen:=congrArg List.length e
 simp only[List.length_append] at hlen
 rw[e]
 have se0:(0:Int)≤(if f.sealed=true then 1 else 0):=by split<;>omega
 have se1:¬(1:Int)<(if f.sealed=true then 1 else 0):=by split<;>omega
 have g1:=gN_okI (n:=f.id) (textL f.name++(numI (if f.sealed=true then 1 else 0)++(numI f.until_++(numI (f.data.size:Int)++(numI (f.holds.length:Int)++(f.holds.flatMap textL++t)))))) (by omega) (by omega) (by simp only[List.length_append];omega)
 have g2:=gT_ok f.name (numI (if f.sealed=true then 1 else 0)++(numI f.until_++(numI (f.data.size:Int)++(numI (f.holds.length:Int)++(f.holds.flatMap textL++t))))) 100 (by omega) (by omega) (by simp only[List.length_append];omega)
 have g3:=gN_okI (n:=if f.sealed=true then 1 else 0) (numI f.until_++(numI (f.data.size:Int)++(numI (f.holds.length:Int)++(f.holds.flatMap textL++t)))) se0 (by omega) (by simp only[List.length_append];omega)
 have g4:=gN_okI (n:=f.until_) (numI (f.data.size:Int)++(numI (f.holds.length:Int)++(f.holds.flatMap textL++t))) u0 (by omega) (by simp only[List.length_append];omega)
 have g5:=gN_okI (n:=(f.data.size:Int)) (numI (f.holds.length:Int)++(f.holds.flatMap textL++t)) (by omega) (by omega) (by simp only[List.length_append];omega)
 have g6:=gN_okI (n:=(f.holds.length:Int)) (f.holds.flatMap textL++t) (by omega) (by omega) (by simp only[List.length_append];omega)
 have g7:=rdH_ok f.holds t (fun x hx=>by obtain⟨k,hk,rfl⟩:=List.getElem_of_mem hx;exact(hf.hs k hk).1) (by omega)
 have d1:¬((f.data.data.toList.length:Int)<(f.data.size:Int)):=by rw[toList_size];omega
 have hex:(bs f.data.data.toList).extract 0 f.data.size=f.data:=by
  rw[bs_ext,List.drop_zero,←toList_size f.data,List.take_length,bs_of]
 have hse:eqI (if f.sealed=true then 1 else 0) 1=f.sealed:=by cases f.sealed<;>rfl
 unfold rdF
 rw[g1]
 dsimp only
 rw[if_neg (by omega),g2]
 dsimp only
 rw[g3]
 dsimp only
 rw[if_neg se1,g4]
 dsimp only
 rw[if_neg (by omega),g5]
 dsimp only
 rw[if_neg (by omega),hJ,if_neg d1,g6]
 dsimp only
 rw[if_neg (by omega),Int.toNat_natCast,g7]
 dsimp only
 rw[Int.toNat_natCast,hex,hse]
 rfl
theorem rdFs_ok (B:List It):∀(l:List Fl) (t:List UInt8),(∀f∈l,VF f∧f.id≤134217728∧JB B f.id (4096*f.id) (4096*(f.id+1))=f.data.data.toList)→(l.flatMap fileL).length+t.length≤900000→rdFs B l.length (bs (l.flatMap fileL++t))=some (l.map nf,bs t)
 | [],t,_,_=>rfl
 | f::l,t,h,hl=>by
  obtain⟨h1,h2,h3⟩:=h f (by simp)
  rw[List.flatMap_cons,List.length_append] at hl
  rw[List.flatMap_cons,List.append_assoc,List.length_cons,rdFs,rdF_ok B f _ h1 h2 h3 (by rw[List.length_append];omega)]
  dsimp only
  rw[rdFs_ok B l t (fun g hg=>h g (by simp[hg])) (by omega)]
  rfl
theorem evL_le400 {e:Ev} (he:EvW e) (hv:evB e=true):(evL e).length≤400:=by
 have hn:=ev_small hv
 have hP:=parts_len e
 obtain⟨hk0,hk7,_,_,_,_,_,_,hev⟩:=valid_range hv
 have h3:=numI_len (n:=e.kind) (by omega)
 have h4:=flat_le pb (e.name.size+41) (partsL e) fun x hx=>(part_ok hv he.sum hx).2
 have hkm:(partsL e).length*(e.name.size+41)≤300:=by
  by_cases hk:e.kind=0∨e.kind=4∨e.kind=5
  ·have h2:(partsL e).length=2:=by
    unfold partsL
    rcases hk with h | h | h<;>simp[h]
   rw[h2];omega
  ·have hc:(evCanon e).name=bs []:=by
    unfold evCanon
    repeat' split
    all_goals first | rfl | (exfalso;omega)
   rw[evEq_eq hev] at hc
   have hb:(bs []).size=0:=by decide
   have h0:e.name.size=0:=by rw[hc];exact hb
   rw[h0];omega
 unfold evL
 rw[List.length_append]
 omega
theorem rdL_ok:∀(l:List Ev) (t:List UInt8),(∀e∈l,EvW e∧SumOk e∧evB e=true)→(logL l).length+t.length≤900000→rdL l.length (bs (logL l++t))=some (l,bs t)
 | [],t,_,_=>rfl
 | e::l,t,h,hl=>by
  obtain⟨h1,h2,h3⟩:=h e (by simp)
  have hb:=evBytes_eq h1 h3
  have h4:=evL_le400 h1 h3
  have ec:logL (e::l)=textL (evBytes e)++logL l:=rfl
  rw[ec,List.length_append] at hl
  have g2:=gE_ok h1 h2 h3 [] (by simp)
  rw[List.append_nil] at g2
  rw[ec,List.append_assoc,List.length_cons,rdL,gT_ok (evBytes e) _ 400 (by rw[hb,bsz];omega) (by omega) (by rw[List.length_append];omega)]
  dsimp only
  rw[hb,g2]
  dsimp only
  rw[if_pos rfl,rdL_ok l t (fun x hx=>h x (by simp[hx])) (by omega)]
theorem rdA_ok {s:St} {evs:List Ev} {room:Int} (hs:LitS s) (v:VS s) (p:Putt s evs room) (he:∀e∈evs,EvW e∧SumOk e) :
  rdA (itemsT room.toNat s (bs (headL s (nI evs.length))) (bs (logL evs)))=some (nS s,decide (0<evs.length),evs):=by
 have hst:=vs_ok hs v
 have hr:8≤room.toNat:=by have:=p.r0;omega
 have hpl:=p.len
 have hitems:=p.items
 rw[itemsOf_eq,List.length_map] at hitems
 have hhl:=headL_le hst (nI evs.length) (by simp;omega)
 have hll:(logL evs).length≤evs.length*408:=flat_le _ 408 evs fun e h=>by
  have h1:=evBytes_eq (he e h).1 (p.good e h)
  have h2:=evL_le400 (he e h).1 (p.good e h)
  have h3:(evBytes e).size≤400:=by rw[h1,bsz];exact h2
  have h4:=text_len (s:=evBytes e) (by unfold big;omega)
  omega
 have hmul2:evs.length*408≤400*408:=Nat.mul_le_mul_right _ hpl
 obtain⟨I,hI⟩:∃I,I=itemsT room.toNat s (bs (headL s (nI evs.length))) (bs (logL evs)):=⟨_,rfl⟩
 have hI2:=hI
 unfold itemsT at hI2
 rw[←hI] at hitems ⊢
 have hlens:=congrArg List.length hI2
 rw[List.length_append,List.length_append] at hlens
 have c1:=ch_range hr (di 0) 0 (bs (headL s (nI evs.length)))
 have c2:=ch_range hr (di 0) 1000 (bs (logL evs))
 have own0:∀{x:It},x.own=di 0→x.own.i=0:=fun h=>by rw[h];rfl
 have idn:∀g∈s.files,g.id≠0:=fun g hg=>by have:=(hst.files g hg).id0;omega
 have j0:JB I 0 0 1000=headL s (nI evs.length):=by
  rw[hI2,JB_app,JB_app,JB_files0 hr _ _ _ _ idn,JB_none (L:=chT room.toNat (di 0) 1000 _) (fun x hx=>?_),JB_all (L:=chT room.toNat (di 0) 0 _) (fun x hx=>?_),chT_join hr _ _ _ _ (Nat.le_refl _),List.append_nil,List.append_nil]
  ·obtain⟨h1,h2,h3⟩:=c1 x hx
   have h4:=own0 h3
   simp[inR,h4]
   omega
  ·obtain⟨h1,h2,h3⟩:=c2 x hx
   simp[inR]
   omega
 have j1:JB I 0 1000 4096=logL evs:=by
  rw[hI2,JB_app,JB_app,JB_files0 hr _ _ _ _ idn,JB_none (L:=chT room.toNat (di 0) 0 _) (fun x hx=>?_),JB_all (L:=chT room.toNat (di 0) 1000 _) (fun x hx=>?_),chT_join hr _ _ _ _ (Nat.le_refl _),List.append_nil,List.nil_append]
  ·obtain⟨h1,h2,h3⟩:=c2 x hx
   have h4:=own0 h3
   simp[inR,h4]
   omega
  ·obtain⟨h1,h2,h3⟩:=c1 x hx
   simp[inR]
   omega
 have j2:∀f∈s.files,JB I f.id (4096*f.id) (4096*(f.id+1))=f.data.data.toList:=by
  intro f hf
  have hn:=idn f hf
  rw[hI2,JB_app,JB_app,JB_files hr s.files hst.rise (fun g hg=>(hst.files g hg).data) f hf]
  have z:∀(lg:Int) (b:ByteArray),JB (chT room.toNat (di 0) lg b) f.id (4096*f.id) (4096*(f.id+1))=[]:=by
   intro lg b
   refine JB_none fun x hx=>?_
   have h4:=own0 (ch_range hr (di 0) lg b x hx).2.2
   have h5:¬(0:Int)=f.id:=fun h=>hn h.symm
   simp[inR,h4,h5]
  rw[z,z];rfl
 have hfv:∀f∈s.files,VF f:=by
  intro f hf
  obtain⟨i,hi,rfl⟩:=List.getElem_of_mem hf
  exact(v.fs i hi).1
 have v1:=v.last0
 have v2:=v.last1
 have v3:=v.floor0
 have v4:=v.floor1
 have v5:=v.len
 have eh:headL s (nI evs.length)=numI s.last++(numI s.floor++(numI (s.files.length:Int)++(numI (evs.length:Int)++(s.files.flatMap fileL++[])))):=by
  simp only[headL,List.append_assoc,List.append_nil];rfl
 have hlen:=congrArg List.length eh
 simp only[List.length_append] at hlen
 have g1:=gN_okI (n:=s.last) (numI s.floor++(numI (s.files.length:Int)++(numI (evs.length:Int)++(s.files.flatMap fileL++[])))) v1 (by omega) (by simp only[List.length_append];omega)
 have g2:=gN_okI (n:=s.floor) (numI (s.files.length:Int)++(numI (evs.length:Int)++(s.files.flatMap fileL++[]))) v3 (by omega) (by simp only[List.length_append];omega)
 have g3:=gN_okI (n:=(s.files.length:Int)) (numI (evs.length:Int)++(s.files.flatMap fileL++[])) (by omega) (by omega) (by simp only[List.length_append];omega)
 have g4:=gN_okI (n:=(evs.length:Int)) (s.files.flatMap fileL++[]) (by omega) (by omega) (by simp only[List.length_append];omega)
 have g5:=rdFs_ok I s.files [] (fun f hf=>⟨hfv f hf,p.ids f hf,j2 f hf⟩) (by simp only[List.length_nil];omega)
 have g6:=rdL_ok evs [] (fun e h=>⟨(he e h).1,(he e h).2,p.good e h⟩) (by simp only[List.length_nil];omega)
 rw[List.append_nil] at g6
 unfold rdA
 rw[j0,eh,g1]
 dsimp only
 rw[if_neg (by omega),g2]
 dsimp only
 rw[if_neg (by omega),g3]
 dsimp only
 rw[if_neg (by omega),g4]
 dsimp only
 rw[if_neg (by omega),Int.toNat_natCast,g5]
 dsimp only
 rw[Int.toNat_natCast,j1,g6]
 rfl
theorem nf_files (room:Nat) (l:List Fl):filesOf room (l.map nf)=filesOf room l:=by
 unfold filesOf;rw[List.map_map];rfl
theorem nS_items (room:Nat) (s:St) (hd lg:ByteArray):itemsOf room (nS s) hd lg=itemsOf room s hd lg:=by
 unfold itemsOf;rw[show (nS s).files=s.files.map nf from rfl,nf_files]
theorem nS_head (s:St) (n:Int):headL (nS s) n=headL s n:=by
 unfold headL
 rw[show (nS s).files=s.files.map nf from rfl,List.length_map,List.flatMap_map];rfl
theorem nf_ok {f:Fl} (h:VF f):VF (nf f):=⟨h.id0,h.id1,h.name,h.data,h.until0,h.until1,h.hold,h.opn,h.hs⟩
theorem nS_vs {s:St} (v:VS s):VS (nS s):=by
 refine⟨by show (s.files.map nf).length≤12;rw[List.length_map];exact v.len,v.last0,v.last1,v.floor0,v.floor1,fun k hk=>?_⟩
 have hk':k<s.files.length:=by
  have:k<(s.files.map nf).length:=hk
  rw[List.length_map] at this;exact this
 obtain⟨w1,w2,w3,w4⟩:=v.fs k hk'
 have ef:∀(j:Nat) (hj:j<(nS s).files.length) (hj':j<s.files.length),(nS s).files[j]=nf s.files[j]:=fun j hj hj'=>List.getElem_map ..
 rw[ef k hk hk']
 refine⟨nf_ok w1,w2,?_,fun h0=>?_⟩
 ·have:findI (fun f:Fl=>decide (f.name=(nf s.files[k]).name)) (nS s).files=findI (fun f:Fl=>decide (f.name=s.files[k].name)) s.files:=by
   unfold findI
   rw[show (nS s).files=s.files.map nf from rfl,List.findIdx?_map];rfl
  rw[this];exact w3
 ·rw[ef (k-1) (by omega) (by omega)]
  exact w4 h0
theorem nS_putt {s:St} {evs:List Ev} {room:Int} (p:Putt s evs room):Putt (nS s) evs room:=by
 refine⟨p.r0,p.r1,p.len,?_,p.good,?_⟩
 ·intro f hf
  obtain⟨g,hg,rfl⟩:=List.mem_map.1 (show f∈s.files.map nf from hf)
  exact p.ids g hg
 ·rw[nS_items,nS_head];exact p.items
end Go.AM.SY
namespace Go.AM.SY
open Go Go.AM
theorem Row.rise {room:Nat} {l:List It} (h:Row room l):∀(d i:Nat) (hj:i+d+1<l.length),l[i].lg<l[i+d+1].lg
 | 0,i,hj=>(h.next i hj).1
 | d+1,i,hj=>by
  have h1:=Row.rise h d i (by omega)
  have h2:=(h.next (i+d+1) (by omega)).1
  have e:i+(d+1)+1=i+d+1+1:=by omega
  simp only[e]
  omega
theorem Row.one {room:Nat} {l:List It} (h:Row room l) {x y:It} (hx:x∈l) (hy:y∈l) (he:x.lg=y.lg):x=y:=by
 obtain⟨i,hi,rfl⟩:=List.getElem_of_mem hx
 obtain⟨j,hj,rfl⟩:=List.getElem_of_mem hy
 rcases Nat.lt_trichotomy i j with h1 | h1 | h1
 ·have:=h.rise (j-i-1) i (by omega)
  have e:i+(j-i-1)+1=j:=by omega
  simp only[e] at this
  omega
 ·subst h1;rfl
 ·have:=h.rise (i-j-1) j (by omega)
  have e:j+(i-j-1)+1=i:=by omega
  simp only[e] at this
  omega
theorem itEq_self (x:It):itEq x x=true:=by simp[itEq]
section
variable {room:Nat} (hr:8≤room) {s t:St} (hs:StOk s) {i:Nat} (hi:i<s.files.length) {f':Fl} (ht:t.files=s.files.set i f') (hid:f'.id=s.files[i].id) (hda:s.files[i].data.size<f'.data.size)
 {hd hd' lg lg':ByteArray} (hh:hd.size≤hd'.size) (hg:lg.size≤lg'.size)
include hr hi ht hid hda hh hg
omit hid hda hh hg in
end
end Go.AM.SY
namespace Go.AM.SY
open Go Go.AM
theorem works_ok:F15.s FUEL=some (.bool true):=by kernel_rfl
end Go.AM.SY
namespace Go.AM.SY
open Go Go.AM
end Go.AM.SY
namespace Go.AM.SY
open Go Go.AM
def dropT (l:List It) (g:Int):List It:=l.filter fun x=>decide (x.lg≠g)
def setF:List It→It→List It
 | [],x=>[x]
 | a::l,x=>if x.lg≤a.lg then x::dropT (a::l) x.lg else a::setF l x
theorem ofi_spec (b:Bool) (L:List It) (hl:L.length≤100000):∃b',F21.s FUEL (dl b (L.map It.enc))=some (dl b' (L.map It.enc)):=by
 suffices h:∀Post:Option D→Prop,(∀b,Post (some (dl b (L.map It.enc))))→Post (F21.s FUEL (dl b (L.map It.enc))) from h (fun o=>∃b,o=some (dl b (L.map It.enc))) fun b=>⟨b,rfl⟩
 intro Post hPost
 unfold F21.s
 refine goS_rule (fun t:F21.S3=>∃(k:Nat) (b1:Bool),t=⟨dl b (L.map It.enc),0,k,(k:Int),b1,(L.take k).map It.enc⟩∧k≤L.length) (fun t=>L.length-t.i4.toNat) Post ?_ _ _ ⟨0,false,rfl,by omega⟩ (by simp[FUEL];omega)
 rintro _ rec ⟨k,b1,rfl,hk⟩ hrec
 simp only[F21.st3]
 by_cases h1:k<L.length
 ·have hadd:ad .i64 (k:Int) 1=((k+1:Nat):Int):=by rw[ad64 (by omega) (by omega)];rfl
  refine pct (by simp;omega) (pct (by simp;omega) (pct (by simp;omega) (pct (by simp;omega) (pct (by simp;omega) ?_))))
  simp only[elems_slice,Int.toNat_natCast,ix_map h1]
  refine hrec _ ⟨k+1,b1||true,?_,by omega⟩ (by rw[hadd];simp;omega)
  rw[F21.S3.mk.injEq]
  refine⟨rfl,rfl,rfl,hadd,rfl,?_⟩
  rw[List.take_succ_eq_append_getElem h1,List.map_append,List.drop_zero,List.take_of_length_le (by simp;omega),ap]
  rfl
 ·refine pcf (by simp;omega) ?_
  have hke:k=L.length:=by omega
  subst hke
  rw[List.take_length]
  exact pct (by simp) (hPost _)
def rest (p:Bool) (l:List It) (x:It):List It:=if p=true then dropT l x.lg else setF l x
end Go.AM.SY
set_option linter.all false
namespace Go.AM.SY
open Go Go.AM
theorem texts_same (a b:Bool) (l:List ByteArray) (hl:l.length≤1000):F122.s FUEL (dl a (l.map dS)) (dl b (l.map dS))=some (db true):=by
 unfold F122.s
 refine cf (by simp) ?_
 refine goS_rule (fun t:F122.S4=>∃k:Nat,t=⟨dl a (l.map dS),dl b (l.map dS),nI (l.map dS).length,(k:Int)⟩∧k≤l.length) (fun t=>l.length-t.i4.toNat) (fun o=>o=some (db true)) ?_ _ _ ⟨0,rfl,by omega⟩ (by simp[FUEL];omega)
 rintro _ rec ⟨k,rfl,hk⟩ hrec
 simp only[F122.st4]
 by_cases h1:k<l.length
 ·have hadd:ad .i64 (k:Int) 1=((k+1:Nat):Int):=by rw[ad64 (by omega) (by omega)];rfl
  refine ct (by simp;omega) (ct (by simp;omega) (ct (by simp;omega) ?_))
  refine cf (by simp) ?_
  rw[hadd]
  exact hrec _ ⟨k+1,rfl,by omega⟩ (by simp;omega)
 ·exact cf (by simp;omega) rfl
theorem file_same (f:Fl) (hl:f.holds.length≤1000):F72.s FUEL f.enc (nf f).enc=some (db true):=by
 unfold F72.s
 have e5:f.enc.at 5=dl f.nn (f.holds.map dS):=rfl
 have e5':(nf f).enc.at 5=dl (decide (0<f.holds.length)) (f.holds.map dS):=rfl
 have q0:(nf f).enc.at 0=f.enc.at 0:=rfl
 have q1:(nf f).enc.at 1=f.enc.at 1:=rfl
 have q2:(nf f).enc.at 2=f.enc.at 2:=rfl
 have q4:(nf f).enc.at 4=f.enc.at 4:=rfl
 have q3:D.eqv ty eqDepth (f.enc.at 3) ((nf f).enc.at 3) .bool=some true:=by
  have:D.eqv ty (15+1) (.bool f.sealed) (.bool f.sealed) .bool=some (f.sealed==f.sealed):=eqv_bool 15 _ _
  have h2:(f.sealed==f.sealed)=true:=by simp
  rw[h2] at this
  exact this
 rw[q0,q1,q2,q3,q4,e5,e5']
 exact ct (by simp) (ct (by simp) (ct (by simp) (bdS (x:=db true) rfl (ct rfl (ct (by simp) (bdS (texts_same _ _ _ hl) rfl))))))
theorem state_same {s:St} (hs:StOk s):F23.s FUEL s.enc (nS s).enc=some (db true):=by
 have hl:=hs.len
 unfold F23.s
 have e0:s.enc.at 0=dl s.nn (s.files.map Fl.enc):=rfl
 have e0':(nS s).enc.at 0=dl (decide (0<s.files.length)) ((s.files.map nf).map Fl.enc):=rfl
 have q1:(nS s).enc.at 1=s.enc.at 1:=rfl
 have q2:(nS s).enc.at 2=s.enc.at 2:=rfl
 rw[q1,q2,e0,e0']
 refine ct (by simp) (ct (by simp) (cf (by simp) ?_))
 simp only[elems_slice,List.length_map]
 refine goS_rule (fun t:F23.S71_4=>∃k:Nat,t=⟨dl (decide (0<s.files.length)) ((s.files.map nf).map Fl.enc),dl s.nn (s.files.map Fl.enc),nI s.files.length,(k:Int),s.enc,(nS s).enc⟩∧k≤s.files.length) (fun t=>s.files.length-t.i4.toNat) (fun o=>o=some (db true)) ?_ _ _ ⟨0,rfl,by omega⟩ (by simp[FUEL];omega)
 rintro _ rec ⟨k,rfl,hk⟩ hrec
 simp only[F23.st71_4]
 by_cases h1:k<s.files.length
 ·have hadd:ad .i64 (k:Int) 1=((k+1:Nat):Int):=by rw[ad64 (by omega) (by omega)];rfl
  have hk2:k<(s.files.map nf).length:=by rw[List.length_map];exact h1
  have hh:=(hs.files _ (List.getElem_mem h1)).hold
  refine ct (by simp;omega) (ct (by simp;omega) (ct (by simp;omega) ?_))
  simp only[elems_slice,Int.toNat_natCast,ix_map h1,ix_map hk2,List.getElem_map]
  refine bdS (file_same _ (by omega)) (cf rfl ?_)
  rw[hadd]
  exact hrec _ ⟨k+1,rfl,by omega⟩ (by simp;omega)
 ·exact cf (by simp;omega) rfl
theorem empty_same:F23.s FUEL (da [(dl false []),(di 0),(di 0)]) (da [(dl false []),(di 0),(di 0)])=some (db true):=by kernel_rfl
theorem evs_same (a b:Bool) (l:List Ev) (hl:l.length≤1000) (hs:∀e∈l,e.sum.length=32):F24.s FUEL (dl a (l.map Ev.enc)) (dl b (l.map Ev.enc))=some (db true):=by
 unfold F24.s
 refine cf (by simp) ?_
 refine goS_rule (fun t:F24.S4=>∃k:Nat,t=⟨dl a (l.map Ev.enc),dl b (l.map Ev.enc),(k:Int)⟩∧k≤l.length) (fun t=>l.length-t.i3.toNat) (fun o=>o=some (db true)) ?_ _ _ ⟨0,rfl,by omega⟩ (by simp[FUEL];omega)
 rintro _ rec ⟨k,rfl,hk⟩ hrec
 simp only[F24.st4]
 by_cases h1:k<l.length
 ·have hadd:ad .i64 (k:Int) 1=((k+1:Nat):Int):=by rw[ad64 (by omega) (by omega)];rfl
  have hz:=hs _ (List.getElem_mem h1)
  refine ct (by simp;omega) (ct (by simp;omega) (ct (by simp;omega) ?_))
  simp only[elems_slice,Int.toNat_natCast,ix_map h1]
  rw[eqv_ev hz hz,evEq_self]
  refine bdS (x:=db false) rfl (cf rfl ?_)
  rw[hadd]
  exact hrec _ ⟨k+1,rfl,by omega⟩ (by simp;omega)
 ·exact cf (by simp;omega) rfl
theorem itEq_eq {x y:It} (hx:x.own=di x.own.i) (hy:y.own=di y.own.i) (h:itEq x y=true):x=y:=by
 obtain⟨a,o,t⟩:=x
 obtain⟨b,p,u⟩:=y
 unfold itEq at h
 simp only[beq_bytesK,Bool.and_eq_true,beq_iff_eq,decide_eq_true_eq] at h hx hy
 obtain⟨h1,h2,h3⟩:=h
 rw[It.mk.injEq]
 exact⟨h1,by rw[hx,hy,h2],h3⟩
theorem items_tell (a b:Bool) (A B:List It) (hA:∀x∈A,x.own=di x.own.i) (hB:∀x∈B,x.own=di x.own.i) (hl:A.length≤1000):Tells (F70.s FUEL (dl a (A.map It.enc)) (dl b (B.map It.enc))) (A=B):=by
 suffices h:∀Post:Option D→Prop,(A=B→Post (some (db true)))→(¬A=B→Post (some (db false)))→Post (F70.s FUEL (dl a (A.map It.enc)) (dl b (B.map It.enc))) from
  h (fun o=>Tells o (A=B)) (fun h=>.inl ⟨h,rfl⟩) (fun h=>.inr ⟨h,rfl⟩)
 intro Post hT hF
 unfold F70.s
 by_cases hlen:A.length=B.length
 case neg=>exact pct (by simp;omega) (hF fun h=>hlen (by rw[h]))
 refine pcf (by simp;omega) ?_
 refine goS_rule (fun t:F70.S4=>∃k:Nat,t=⟨dl a (A.map It.enc),dl b (B.map It.enc),nI (A.map It.enc).length,(k:Int)⟩∧k≤A.length∧A.take k=B.take k) (fun t=>A.length-t.i4.toNat) Post ?_ _ _ ⟨0,rfl,by omega,rfl⟩ (by simp[FUEL];omega)
 rintro _ rec ⟨k,rfl,hk,he⟩ hrec
 simp only[F70.st4]
 by_cases h1:k<A.length
 ·have hadd:ad .i64 (k:Int) 1=((k+1:Nat):Int):=by rw[ad64 (by omega) (by omega)];rfl
  have h2:k<B.length:=by omega
  refine pct (by simp;omega) (pct (by simp;omega) (pct (by simp;omega) ?_))
  simp only[elems_slice,Int.toNat_natCast,ix_map h1,ix_map h2]
  have o1:=hA _ (List.getElem_mem h1)
  have o2:=hB _ (List.getElem_mem h2)
  rw[eqv_item o1 o2]
  cases hq:itEq A[k] B[k] with
  | false=>
   refine pbd (x:=db true) rfl (pct rfl (hF fun h=>?_))
   have:itEq A[k] B[k]=true:=by
    have e:A[k]=B[k]:=by congr 1
    rw[e,itEq_self]
   rw[hq] at this
   simp at this
  | true=>
   refine pbd (x:=db false) rfl (pcf rfl ?_)
   rw[hadd]
   refine hrec _ ⟨k+1,rfl,by omega,?_⟩ (by simp;omega)
   rw[List.take_succ_eq_append_getElem h1,List.take_succ_eq_append_getElem h2,he,itEq_eq o1 o2 hq]
 ·refine pcf (by simp;omega) (hT ?_)
  have e1:A.take k=A:=List.take_of_length_le (by omega)
  have e2:B.take k=B:=List.take_of_length_le (by omega)
  rw[e1,e2] at he
  exact he
structure WfF (f:Fl):Prop where
 nil:f.nn=false→f.holds=[]
structure WfS (s:St):Prop where
 nil:s.nn=false→s.files=[]
 files:∀f∈s.files,WfF f
theorem few_file (f:Fl):F51.s FUEL f.enc=some (db false)∨(F51.s FUEL f.enc=some (db true)∧f.name.size≤200∧(∀s∈f.holds,s.size≤200)):=by
 unfold F51.s
 have e5:f.enc.at 5=dl f.nn (f.holds.map dS):=rfl
 have e2:(f.enc.at 2).s=f.data:=rfl
 have e1:(f.enc.at 1).s=f.name:=rfl
 refine goS_rule (fun t:F51.S2=>∃k:Nat,t=⟨(k:Int),f.enc⟩∧k≤201∧∀i (h:i<f.holds.length),i<k→f.holds[i].size≤200) (fun t=>201-t.i1.toNat) (fun o=>o=some (db false)∨(o=some (db true)∧f.name.size≤200∧(∀s∈f.holds,s.size≤200))) ?_ _ _ ⟨0,rfl,by omega,by omega⟩ (by simp[FUEL])
 rintro _ rec ⟨k,rfl,hk,hs⟩ hrec
 simp only[F51.st2]
 rw[e5,e2,e1]
 simp only[elems_slice,List.length_map]
 have fin:(200<k∨f.holds.length≤k)→(fun o=>o=some (db false)∨(o=some (db true)∧f.name.size≤200∧(∀s∈f.holds,s.size≤200))) (cond (leI (nI f.holds.length) 200) (cond (leI (nI f.data.size) 2000) (some (db (leI (nI f.name.size) 200))) (some (db false))) (some (db false))):=by
  intro hkk
  by_cases h1:f.holds.length≤200
  ·refine pct (Post:=fun o=>o=some (db false)∨(o=some (db true)∧f.name.size≤200∧(∀s∈f.holds,s.size≤200))) (by simp;omega) ?_
   by_cases h2:f.data.size≤2000
   ·refine pct (Post:=fun o=>o=some (db false)∨(o=some (db true)∧f.name.size≤200∧(∀s∈f.holds,s.size≤200))) (by simp;omega) ?_
    by_cases h3:f.name.size≤200
    ·refine .inr ⟨by have:leI (nI f.name.size) 200=true:=by { simp;omega }
                     rw[this],h3,?_⟩
     intro s hx
     obtain⟨i,hi,rfl⟩:=List.getElem_of_mem hx
     exact hs i hi (by omega)
    ·exact .inl (by have:leI (nI f.name.size) 200=false:=by { simp;omega }
                    rw[this])
   ·exact pcf (Post:=fun o=>o=some (db false)∨(o=some (db true)∧f.name.size≤200∧(∀s∈f.holds,s.size≤200))) (by simp;omega) (.inl rfl)
  ·exact pcf (Post:=fun o=>o=some (db false)∨(o=some (db true)∧f.name.size≤200∧(∀s∈f.holds,s.size≤200))) (by simp;omega) (.inl rfl)
 by_cases h1:k<f.holds.length
 ·refine pct (Post:=fun o=>o=some (db false)∨(o=some (db true)∧f.name.size≤200∧(∀s∈f.holds,s.size≤200))) (by simp;omega) ?_
  by_cases h2:k≤200
  ·refine pct (Post:=fun o=>o=some (db false)∨(o=some (db true)∧f.name.size≤200∧(∀s∈f.holds,s.size≤200))) (by simp;omega) (pct (Post:=fun o=>o=some (db false)∨(o=some (db true)∧f.name.size≤200∧(∀s∈f.holds,s.size≤200))) (by simp;omega) ?_)
   simp only[Int.toNat_natCast,ix_map h1]
   by_cases h3:f.holds[k].size≤200
   ·refine pcf (Post:=fun o=>o=some (db false)∨(o=some (db true)∧f.name.size≤200∧(∀s∈f.holds,s.size≤200))) (by simp;omega) ?_
    have hadd:ad .i64 (k:Int) 1=((k+1:Nat):Int):=by rw[ad64 (by omega) (by omega)];rfl
    rw[hadd]
    refine hrec _ ⟨k+1,rfl,by omega,?_⟩ (by simp;omega)
    intro i hi hik
    by_cases hik':i=k
    ·subst hik';exact h3
    ·exact hs i hi (by omega)
   ·exact pct (Post:=fun o=>o=some (db false)∨(o=some (db true)∧f.name.size≤200∧(∀s∈f.holds,s.size≤200))) (by simp;omega) (.inl rfl)
  ·exact pcf (Post:=fun o=>o=some (db false)∨(o=some (db true)∧f.name.size≤200∧(∀s∈f.holds,s.size≤200))) (by simp;omega) (fin (.inl (by omega)))
 ·exact pcf (Post:=fun o=>o=some (db false)∨(o=some (db true)∧f.name.size≤200∧(∀s∈f.holds,s.size≤200))) (by simp;omega) (fin (.inr (by omega)))
theorem few_state {s:St} (hw:WfS s):F16.s FUEL s.enc=some (db false)∨(F16.s FUEL s.enc=some (db true)∧LitS s):=by
 suffices h:∀Post:Option D→Prop,Post (some (db false))→(LitS s→Post (some (db true)))→Post (F16.s FUEL s.enc) from
  h (fun o=>o=some (db false)∨(o=some (db true)∧LitS s)) (.inl rfl) (fun h=>.inr ⟨rfl,h⟩)
 intro Post hF hT
 unfold F16.s
 have e0:s.enc.at 0=dl s.nn (s.files.map Fl.enc):=rfl
 refine goS_rule (fun t:F16.S2=>∃k:Nat,t=⟨(k:Int),s.enc⟩∧k≤21∧∀i (h:i<s.files.length),i<k→LitF s.files[i]) (fun t=>21-t.i1.toNat) Post ?_ _ _ ⟨0,rfl,by omega,by omega⟩ (by simp[FUEL])
 rintro _ rec ⟨k,rfl,hk,hs⟩ hrec
 simp only[F16.st2]
 rw[e0]
 simp only[elems_slice,List.length_map]
 have fin:(20<k∨s.files.length≤k)→Post (some (db (leI (nI s.files.length) 20))):=by
  intro hkk
  by_cases h1:s.files.length≤20
  ·have e:leI (nI s.files.length) 20=true:=by simp;omega
   rw[e]
   refine hT ⟨by omega,hw.nil,fun f hf=>?_⟩
   obtain⟨i,hi,rfl⟩:=List.getElem_of_mem hf
   exact hs i hi (by omega)
  ·have e:leI (nI s.files.length) 20=false:=by simp;omega
   rw[e];exact hF
 by_cases h1:k<s.files.length
 ·refine pct (by simp;omega) ?_
  by_cases h2:k≤20
  ·refine pct (by simp;omega) (pct (by simp;omega) ?_)
   simp only[Int.toNat_natCast,ix_map h1]
   rcases few_file s.files[k] with e | ⟨e,q1,q2⟩
   ·exact pbd e (pct rfl hF)
   ·refine pbd e (pcf rfl ?_)
    have hadd:ad .i64 (k:Int) 1=((k+1:Nat):Int):=by rw[ad64 (by omega) (by omega)];rfl
    rw[hadd]
    refine hrec _ ⟨k+1,rfl,by omega,?_⟩ (by simp;omega)
    intro i hi hik
    by_cases hik':i=k
    ·subst hik'
     exact⟨by omega,fun x hx=>by have:=q2 x hx;omega,(hw.files _ (List.getElem_mem h1)).nil⟩
    ·exact hs i hi (by omega)
  ·exact pcf (by simp;omega) (fin (.inl (by omega)))
 ·exact pcf (by simp;omega) (fin (.inr (by omega)))
end Go.AM.SY
namespace Go.AM.SY
open Go Go.AM
theorem row_same (b1 b2:Bool) (L:List It) (hl:L.length≤100000) (ho:∀x∈L,x.own=di x.own.i):F20.s FUEL (dl b1 (L.map It.enc)) (dl b2 (L.map It.enc))=some (db true):=by
 unfold F20.s
 refine cf (by simp) ?_
 refine goS_rule (fun t:F20.S4=>∃k:Nat,t=⟨dl b1 (L.map It.enc),dl b2 (L.map It.enc),(k:Int)⟩∧k≤L.length) (fun t=>L.length-t.i3.toNat) (fun o=>o=some (db true)) ?_ _ _ ⟨0,rfl,by omega⟩ (by simp[FUEL];omega)
 rintro _ rec ⟨k,rfl,hk⟩ hrec
 simp only[F20.st4]
 by_cases h1:k<L.length
 ·have hadd:ad .i64 (k:Int) 1=((k+1:Nat):Int):=by rw[ad64 (by omega) (by omega)];rfl
  refine ct (by simp;omega) (ct (by simp;omega) (ct (by simp;omega) ?_))
  simp only[elems_slice,Int.toNat_natCast,ix_map h1]
  have hm:=ho _ (List.getElem_mem h1)
  rw[eqv_item hm hm,itEq_self]
  refine bdS rfl (cf rfl (hrec _ ⟨k+1,by rw[hadd],by omega⟩ ?_))
  rw[hadd];simp;omega
 ·exact cf (by simp;omega) rfl
end Go.AM.SY
set_option linter.all false
namespace Go.AM.SY
open Go Go.AM
theorem ev_wf {e:Ev} (hw:D.wf e.enc):e.name.size≤9223372036854775807∧SumOk e:=by
 unfold Ev.enc at hw
 rw[D.wf] at hw
 simp only[D.wfs] at hw
 refine⟨by have:=hw.2.2.1;rw[D.wf] at this;exact this,fun x hx=>?_⟩
 have h:=hw.2.2.2.2.2.1
 unfold sumD at h
 rw[D.wf] at h
 have:=wfs_mem h (D.int .u8 x) (List.mem_map.2 ⟨x,hx,rfl⟩)
 simp only[D.wf,IntKind.min,IntKind.max,IntKind.signed,IntKind.bits] at this
 simp at this
 omega
theorem evs_of {d:D} (h:D.has ty d (.slice 32)) (hw:D.wf d):∃(nn:Bool) (l:List Ev),d=dl nn (l.map Ev.enc)∧∀e∈l,EvW e∧SumOk e:=by
 obtain⟨nn,ds,rfl,h1,h2⟩:=hass_slice h
 simp only[D.wf] at hw
 obtain⟨l,rfl,_,hl⟩:=hass_rep (f:=Ev.enc) (Q:=fun e:Ev=>EvW e∧SumOk e) (fun d h1 h2=>by
  obtain⟨e,rfl,ho⟩:=ev_of (fs:=[28,3,9,3,3,30]) (e:=5) rfl rfl h1 h2
  exact⟨e,rfl,⟨(ev_wf h2).1,ho.sum⟩,(ev_wf h2).2⟩) h1 (by first | exact hw | exact hw.1 | exact hw.2)
 exact⟨nn,l,rfl,hl⟩
theorem fl_of {d:D} (h:D.has ty d (.struct [3,9,9,4,3,66])):∃f:Fl,d=f.enc∧WfF f:=by
 obtain⟨ds,rfl,hh⟩:=hass_struct h
 clear h
 have hf:List.map ty [3,9,9,4,3,66]=[.int .i64,.str,.str,.bool,.int .i64,.slice 9]:=rfl
 rw[hf] at hh
 obtain⟨d0,_,rfl,h0,hh⟩:=hassC hh
 obtain⟨d1,_,rfl,h1,hh⟩:=hassC hh
 obtain⟨d2,_,rfl,h2,hh⟩:=hassC hh
 obtain⟨d3,_,rfl,h3,hh⟩:=hassC hh
 obtain⟨d4,_,rfl,h4,hh⟩:=hassC hh
 obtain⟨d5,_,rfl,h5,hh⟩:=hassC hh
 obtain rfl:=hass0 hh
 obtain⟨x0,rfl⟩:=has_int h0
 obtain⟨x1,rfl⟩:=has_str h1
 obtain⟨x2,rfl⟩:=has_str h2
 obtain⟨x3,rfl⟩:=has_bool h3
 obtain⟨x4,rfl⟩:=has_int h4
 obtain⟨nn,ds5,rfl,h6,hn⟩:=hass_slice h5
 have h9:ty 9 = .str:=rfl
 rw[h9] at h6
 obtain⟨l,rfl,_⟩:=hass_strs h6
 exact⟨⟨x0,x1,x2,x3,x4,nn,l⟩,rfl,⟨fun h=>by have:=hn h;simpa using this⟩⟩
theorem st_of {d:D} (h:D.has ty d (.struct [22,3,3])) (hw:D.wf d):∃s:St,d=s.enc∧WfS s:=by
 obtain⟨ds,rfl,hh⟩:=hass_struct h
 clear h
 have hf:List.map ty [22,3,3]=[.slice 68,.int .i64,.int .i64]:=rfl
 rw[hf] at hh
 obtain⟨d0,_,rfl,h0,hh⟩:=hassC hh
 obtain⟨d1,_,rfl,h1,hh⟩:=hassC hh
 obtain⟨d2,_,rfl,h2,hh⟩:=hassC hh
 obtain rfl:=hass0 hh
 obtain⟨x1,rfl⟩:=has_int h1
 obtain⟨x2,rfl⟩:=has_int h2
 rw[D.wf] at hw
 simp only[D.wfs] at hw
 obtain⟨nn,ds0,rfl,h3,hn⟩:=hass_slice h0
 have hw0:=hw.1
 simp only[D.wf] at hw0
 obtain⟨l,rfl,_,hl⟩:=hass_rep (f:=Fl.enc) (Q:=fun f:Fl=>WfF f) (fun d h1 _=>fl_of h1) h3 (by first | exact hw0 | exact hw0.1 | exact hw0.2)
 exact⟨⟨nn,l,x1,x2⟩,rfl,fun h=>by have:=hn h;simpa using this,hl⟩
theorem its_of {d:D} (h:D.has ty d (.slice 49)) (hw:D.wf d):∃(nn:Bool) (l:List It),d=dl nn (l.map It.enc)∧∀x∈l,x.own=di x.own.i:=by
 obtain⟨nn,ds,rfl,h1,h2⟩:=hass_slice h
 simp only[D.wf] at hw
 obtain⟨l,rfl,_,hl⟩:=hass_rep (f:=It.enc) (Q:=fun x:It=>x.own=di x.own.i) (fun d hI _=>by
  obtain⟨ds,rfl,hh⟩:=hass_struct hI
  have hf:List.map ty [3,3,9]=[.int .i64,.int .i64,.str]:=rfl
  rw[hf] at hh
  obtain⟨d0,_,rfl,k0,hh⟩:=hassC hh
  obtain⟨d1,_,rfl,k1,hh⟩:=hassC hh
  obtain⟨d2,_,rfl,k2,hh⟩:=hassC hh
  obtain rfl:=hass0 hh
  obtain⟨x0,rfl⟩:=has_int k0
  obtain⟨x1,rfl⟩:=has_int k1
  obtain⟨x2,rfl⟩:=has_str k2
  exact⟨⟨x0,di x1,x2⟩,rfl,rfl⟩) h1 (by first | exact hw | exact hw.1 | exact hw.2)
 exact⟨nn,l,rfl,hl⟩
end Go.AM.SY
set_option linter.all false
namespace Go.AM.SY
open Go Go.AM
theorem rdA_nil:rdA []=none:=by
 have:gN (bs (JB [] 0 0 1000))=none:=by kernel_rfl
 unfold rdA
 rw[this]
theorem own_ch {room:Nat} (hr:8≤room) (n:Int) (lg:Int) (s:ByteArray):∀x∈chT room (di n) lg s,x.own=di x.own.i:=by
 intro x hx
 have:=(ch_range hr (di n) lg s x hx).2.2
 rw[this];rfl
theorem own_files {room:Nat} (hr:8≤room):∀(l:List Fl),∀x∈filesT room l,x.own=di x.own.i
 | [],x,hx=>by simp[filesT] at hx
 | f::l,x,hx=>by
  have e:filesT room (f::l)=chT room (di f.id) (4096*f.id) f.data++filesT room l:=rfl
  rw[e] at hx
  rcases List.mem_append.1 hx with hx | hx
  ·exact own_ch hr _ _ _ x hx
  ·exact own_files hr l x hx
theorem own_items {room:Nat} (hr:8≤room) (s:St) (hd lg:ByteArray):∀x∈itemsT room s hd lg,x.own=di x.own.i:=by
 intro x hx
 unfold itemsT at hx
 rcases List.mem_append.1 hx with hx | hx
 ·rcases List.mem_append.1 hx with hx | hx
  ·exact own_ch hr _ _ _ x hx
  ·exact own_ch hr _ _ _ x hx
 ·exact own_files hr _ x hx
theorem tx_ch {room:Nat} (hr:8≤room) (o:D) (lg:Int) (s:ByteArray):∀x∈chT room o lg s,x.tx.size≤room:=by
 intro x hx
 obtain⟨i,hi,rfl⟩:=List.getElem_of_mem hx
 exact(chT_get hr o s.size lg s (Nat.le_refl _) i hi).2.2.2.1
theorem tx_files {room:Nat} (hr:8≤room):∀(l:List Fl),∀x∈filesT room l,x.tx.size≤room
 | [],x,hx=>by simp[filesT] at hx
 | f::l,x,hx=>by
  have e:filesT room (f::l)=chT room (di f.id) (4096*f.id) f.data++filesT room l:=rfl
  rw[e] at hx
  rcases List.mem_append.1 hx with hx | hx
  ·exact tx_ch hr _ _ _ x hx
  ·exact tx_files hr l x hx
theorem tx_items {room:Nat} (hr:8≤room) (s:St) (hd lg:ByteArray):∀x∈itemsT room s hd lg,x.tx.size≤room:=by
 intro x hx
 unfold itemsT at hx
 rcases List.mem_append.1 hx with hx | hx
 ·rcases List.mem_append.1 hx with hx | hx
  ·exact tx_ch hr _ _ _ x hx
  ·exact tx_ch hr _ _ _ x hx
 ·exact tx_files hr _ x hx
def putI (s:St) (evs:List Ev) (room:Int):List It:=itemsT room.toNat s (bs (headL s (nI evs.length))) (bs (logL evs))
theorem put_cases {s:St} (hs:LitS s) (nn:Bool) (evs:List Ev) (hev:∀e∈evs,EvW e) (room:Int) :
  F17.s FUEL s.enc (dl nn (evs.map Ev.enc)) room=some (.tup [dl false [],db false])∨(VS s∧Putt s evs room∧∃b,F17.s FUEL s.enc (dl nn (evs.map Ev.enc)) room=some (.tup [dl b ((putI s evs room).map It.enc),db true])):=by
 refine put_tells (Post:=fun o=>o=some (.tup [dl false [],db false])∨(VS s∧Putt s evs room∧∃b,o=some (.tup [dl b ((putI s evs room).map It.enc),db true]))) hs nn evs hev room (fun _=>.inl rfl) (fun v p b=>.inr ⟨v,p,b,?_⟩)
 rw[itemsOf_eq];rfl
def back2:F4.X12→Option D:=fun x=>match x with
 | .e0 i7 d8 d9 d11 d12=>(some d9)
 | .e1 i7 d8 d9 d11 d12=>(bd (F22.s FUEL d8 i7) fun r13=>(cond (!(r13.at 2).b) (cond d9.b (bd (F23.s FUEL (r13.at 0) (da [(dl false []),(di 0),(di 0)])) fun r14=>(cond r14.b (some (db (eqI (nI (r13.at 1).elems.length) 0))) (some (db false)))) (some (db false))) (bd (F17.s FUEL (r13.at 0) (r13.at 1) i7) fun r15=>(cond d9.b (cond (r15.at 1).b (bd (F21.s FUEL (r15.at 0)) fun r16=>(bd (F21.s FUEL d8) fun r17=>(bd (F20.s FUEL (dl r16.nn ((r16.elems.drop 0).take r16.elems.length)) (dl r17.nn ((r17.elems.drop 0).take r17.elems.length))) fun r18=>(some r18)))) (some (db false))) (some (db false))))))
theorem back2_bad (room:Int) (d8 d11 d12:D) (h:F22.s FUEL d8 room=some bad22):back2 (.e1 room d8 (db true) d11 d12)=some (db true):=by
 unfold back2
 exact bdS h (ct rfl (ct rfl (bdS empty_same rfl)))
theorem second_half (room:Int) (n2:Bool) (I:List It) (hI:I.length≤60) (hO:∀x∈I,x.own=di x.own.i) (d11 d12:D):goS (F4.st12 FUEL) FUEL ⟨room,dl n2 (I.map It.enc),db true,0,d11,d12⟩ back2=some (db true):=by
 refine goS_rule (fun t:F4.S12=>∃k:Nat,t=⟨room,dl n2 (I.map It.enc),db true,(k:Int),d11,d12⟩∧k≤I.length∧∀i (h:i<I.length),i<k→I[i].tx.size≤300) (fun t=>I.length-t.i10.toNat) (fun o=>o=some (db true)) ?_ _ _ ⟨0,rfl,by omega,by omega⟩ (by simp[FUEL];omega)
 rintro _ rec ⟨k,rfl,hk,hs⟩ hrec
 simp only[F4.st12]
 by_cases h1:k<I.length
 ·have hadd:ad .i64 (k:Int) 1=((k+1:Nat):Int):=by rw[ad64 (by omega) (by omega)];rfl
  refine ct (by simp;omega) (ct (by simp;omega) ?_)
  simp only[elems_slice,Int.toNat_natCast,ix_map h1]
  have e2:(I[k].enc.at 2).s=I[k].tx:=rfl
  rw[e2,hadd]
  by_cases h2:I[k].tx.size≤300
  ·refine cf (by simp;omega) (hrec _ ⟨k+1,rfl,by omega,?_⟩ (by simp;omega))
   intro i hi hik
   by_cases hik':i=k
   ·subst hik';exact h2
   ·exact hs i hi (by omega)
  ·exact ct (by simp;omega) rfl
 ·refine cf (by simp;omega) ?_
  have hx:∀x∈I,x.tx.size≤300:=by
   intro x hx
   obtain⟨i,hi,rfl⟩:=List.getElem_of_mem hx
   exact hs i hi (by omega)
  have hcase:F22.s FUEL (dl n2 (I.map It.enc)) room=some bad22∨∃(s:St) (nn:Bool) (ev:List Ev) (b:Bool),F22.s FUEL (dl n2 (I.map It.enc)) room=some (.tup [s.enc,dl nn (ev.map Ev.enc),db true])∧F17.s FUEL s.enc (dl nn (ev.map Ev.enc)) room=some (.tup [dl b (I.map It.enc),db true]):=by
   refine get_img (Post:=fun o=>o=some bad22∨∃(s:St) (nn:Bool) (ev:List Ev) (b:Bool),o=some (.tup [s.enc,dl nn (ev.map Ev.enc),db true])∧F17.s FUEL s.enc (dl nn (ev.map Ev.enc)) room=some (.tup [dl b (I.map It.enc),db true])) n2 I (by omega) hx room (fun _=>.inl rfl) (fun s nn ev _ hls hev=>?_)
   rcases put_cases hls nn ev hev room with hp | ⟨v,p,b,hp⟩
   ·refine .inl ?_
    unfold tail22
    exact bdS hp rfl
   ·have hr:8≤room.toNat:=by have:=p.r0;omega
    have hlen:(putI s ev room).length≤400:=by
     have:=p.items
     rw[itemsOf_eq,List.length_map] at this
     exact this
    rcases items_tell b n2 (putI s ev room) I (own_items hr _ _ _) hO (by omega) with ⟨e,t⟩ | ⟨e,t⟩
    ·refine .inr ⟨s,nn,ev,b,?_,by rw[hp,e]⟩
     unfold tail22
     exact bdS hp (bdS t (cf rfl rfl))
    ·refine .inl ?_
     unfold tail22
     exact bdS hp (bdS t (ct rfl rfl))
  rcases hcase with hb | ⟨s,nn,ev,b,hg,hp⟩
  ·exact back2_bad room _ _ _ hb
  ·unfold back2
   obtain⟨b1,ho1⟩:=ofi_spec b I (by omega)
   obtain⟨b2,ho2⟩:=ofi_spec n2 I (by omega)
   refine bdS hg (cf rfl (bdS hp (ct rfl (ct rfl (bdS ho1 (bdS ho2 ?_))))))
   have hcur:∀b',(((dl b' (I.map It.enc)).elems.drop 0).take (dl b' (I.map It.enc)).elems.length)=I.map It.enc:=by
    intro b'
    simp only[elems_slice,List.drop_zero,List.take_length]
   rw[hcur,hcur]
   exact bdS (row_same _ _ I (by omega) hO) rfl
theorem back_run {s:St} (hw:WfS s) (n1:Bool) (evs:List Ev) (hev:∀e∈evs,EvW e∧SumOk e) (room:Int) (n2:Bool) (I:List It) (hO:∀x∈I,x.own=di x.own.i) :
  F4.s FUEL s.enc (dl n1 (evs.map Ev.enc)) room (dl n2 (I.map It.enc))=some (db true):=by
 unfold F4.s
 refine bdS works_ok (cf rfl ?_)
 rcases few_state hw with e | ⟨e,hs⟩
 ·exact bdS e (ct rfl rfl)
 refine bdS e (cf rfl ?_)
 simp only[elems_slice,List.length_map]
 by_cases c1:60<evs.length
 ·exact ct (by simp;omega) rfl
 refine cf (by simp;omega) ?_
 by_cases c2:60<I.length
 ·exact ct (by simp;omega) rfl
 refine cf (by simp;omega) ?_
 rcases put_cases hs n1 evs (fun e h=>(hev e h).1) room with hp | ⟨v,p,b,hp⟩
 ·have hg:F22.s FUEL (dl false []) room=some bad22:=by
   have:=get_img (Post:=fun o=>o=some bad22) false [] (by simp) (by simp) room (fun _=>rfl) (fun s nn ev h _ _=>by rw[rdA_nil] at h;simp at h)
   exact this
  refine bdS hp (bdS hg (cf rfl (ct rfl (cf rfl ?_))))
  exact second_half room n2 I (by omega) hO _ _
 ·have hr:8≤room.toNat:=by have:=p.r0;omega
  have hr1:room.toNat≤224:=by have:=p.r1;omega
  have hlen:(putI s evs room).length≤400:=by
   have:=p.items
   rw[itemsOf_eq,List.length_map] at this
   exact this
  have hA:rdA (putI s evs room)=some (nS s,decide (0<evs.length),evs):=rdA_ok hs v p hev
  have hg:F22.s FUEL (dl b ((putI s evs room).map It.enc)) room=some (.tup [(nS s).enc,dl (decide (0<evs.length)) (evs.map Ev.enc),db true]):=by
   refine get_img (Post:=fun o=>o=some (.tup [(nS s).enc,dl (decide (0<evs.length)) (evs.map Ev.enc),db true])) b (putI s evs room) hlen (fun x hx=>by have:=tx_items hr _ _ _ x hx;omega) room (fun h=>by rw[hA] at h;simp at h) (fun s' nn ev h hls hev'=>?_)
   rw[hA] at h
   simp only[Option.some.injEq,Prod.mk.injEq] at h
   obtain⟨rfl,rfl,rfl⟩:=h
   have hsame:putI (nS s) evs room=putI s evs room:=by
    unfold putI itemsT
    rw[nS_head,show (nS s).files=s.files.map nf from rfl]
    unfold filesT
    rw[List.map_map];rfl
   rcases put_cases hls (decide (0<evs.length)) evs hev' room with hp2 | ⟨_,_,b2,hp2⟩
   ·exfalso
    have:=put_tells (Post:=fun o=>o≠some (.tup [dl false [],db false])) hls (decide (0<evs.length)) evs hev' room (fun h=>absurd ⟨nS_vs v,nS_putt p⟩ h) (fun _ _ b=>by simp)
    exact this hp2
   ·unfold tail22
    rw[hsame] at hp2
    rcases items_tell b2 b (putI s evs room) (putI s evs room) (own_items hr _ _ _) (own_items hr _ _ _) (by omega) with ⟨_,t⟩ | ⟨e,_⟩
    ·exact bdS hp2 (bdS t (cf rfl rfl))
    ·exact absurd rfl e
  refine bdS hp (bdS hg (ct rfl (cf rfl (bdS (state_same (vs_ok hs v)) (cf rfl (bdS (evs_same _ _ _ (by omega) (fun e h=>(hev e h).1.sum)) (cf rfl (cf rfl ?_))))))))
  exact second_half room n2 I (by omega) hO _ _
theorem pure4:∀ds,D.hass ty ds [(.struct [22,3,3]),(.slice 32),(.int .i64),(.slice 49)]→D.wfs ds→F4.c.run ds=some (.bool true):=by
 intro ds h hw
 obtain⟨d0,_,rfl,h0,h⟩:=hassC h
 obtain⟨d1,_,rfl,h1,h⟩:=hassC h
 obtain⟨d2,_,rfl,h2,h⟩:=hassC h
 obtain⟨d3,_,rfl,h3,h⟩:=hassC h
 obtain rfl:=hass0 h
 simp only[D.wfs] at hw
 obtain⟨s,rfl,hs⟩:=st_of h0 hw.1
 obtain⟨n1,l1,rfl,hl1⟩:=evs_of h1 hw.2.1
 obtain⟨n,rfl⟩:=has_int h2
 obtain⟨n3,l3,rfl,hl3⟩:=its_of h3 hw.2.2.2.1
 exact back_run hs n1 l1 hl1 n n3 l3 hl3
end Go.AM.SY
