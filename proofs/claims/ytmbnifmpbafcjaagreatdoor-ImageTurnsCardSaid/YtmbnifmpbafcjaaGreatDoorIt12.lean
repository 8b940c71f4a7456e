/- Part 12 of the proof: the abstract machine, what the functions compute, and plain laws over that. -/
import Derived.Test.YtmbnifmpbafcjaaGreatDoorIt11
import Derived.Lib.MapLaws
set_option linter.all false
set_option linter.unusedSimpArgs false
set_option linter.unusedVariables false
set_option linter.unusedSectionVars false
namespace Go.AM.SY
open Go Go.AM
theorem lexB_irrefl:∀l:List Int,lexB l l=false
 | []=>rfl
 | x::l=>by simp only[lexB,if_true];exact lexB_irrefl l
theorem lexB_trans:∀{a b c:List Int},lexB a b=true→lexB b c=true→lexB a c=true
 | [],[],_,h,_=>by simp[lexB] at h
 | [],_::_,[],_,h=>by simp[lexB] at h
 | [],_::_,_::_,_,_=>rfl
 | _::_,[],_,h,_=>by simp[lexB] at h
 | _::_,_::_,[],_,h=>by simp[lexB] at h
 | x::a,y::b,z::c,h1,h2=>by
  simp only[lexB] at h1 h2 ⊢
  split at h1
  ·subst x
   split at h2
   ·subst y;rw[if_pos rfl];exact lexB_trans h1 h2
   ·rename_i h;rw[if_neg h];exact h2
  ·split at h2
   ·subst y;rename_i h;rw[if_neg h];exact h1
   ·simp only[decide_eq_true_eq] at h1 h2
    rw[if_neg (by omega)]
    simp only[decide_eq_true_eq];omega
theorem lexB_tri:∀a b:List Int,lexB a b=true∨a=b∨lexB b a=true
 | [],[]=>.inr (.inl rfl)
 | [],_::_=>.inl rfl
 | _::_,[]=>.inr (.inr rfl)
 | x::a,y::b=>by
  simp only[lexB]
  by_cases h:x=y
  ·subst h
   simp only[if_true]
   rcases lexB_tri a b with h | h | h
   ·exact .inl h
   ·subst h;exact .inr (.inl rfl)
   ·exact .inr (.inr h)
  ·rw[if_neg h,if_neg (by omega)]
   simp only[decide_eq_true_eq]
   omega
theorem dec_L (s:ByteArray) (p:Nat):Lib.decodeL (s.data.toList.drop p)=Utf8.decode s p:=by
 have e:(⟨(s.data.toList.drop p).toArray⟩:ByteArray)=s.extract p s.size:=by
  apply ByteArray.ext
  apply Array.toList_inj.1
  simp
  exact(List.take_of_length_le (by rw[List.length_drop,Array.length_toList];exact Nat.le_refl _)).symm
 unfold Lib.decodeL
 rw[e,Lib.tail_decode,Nat.add_zero]
theorem dec_top (s:ByteArray) (p:Nat):(Utf8.decode s p).1≤1114111:=by
 rw[←dec_L,Lib.decodeL_N]
 have k0:=((s.data.toList.drop p).getD 0 0).toNat_lt
 rcases Lib.decodeN_shape (s.data.toList.drop p).length ((s.data.toList.drop p).getD 0 0).toNat ((s.data.toList.drop p).getD 1 0).toNat ((s.data.toList.drop p).getD 2 0).toNat ((s.data.toList.drop p).getD 3 0).toNat with ⟨c,e⟩ | ⟨c1,c2,c3,cv,e⟩ | ⟨c1,c2,c3,c4,cv,cs,e⟩ | ⟨c1,c2,c3,c4,c5,cv,cw,e⟩ | e
 all_goals rw[e];dsimp only;omega
def chunk (k:Int):List UInt8:=if 1114112≤k then [UInt8.ofNat (k-1114112).toNat] else Lib.encodeRune k
theorem key_chunk {s:ByteArray} {p:Nat} (h:p<s.size):(s.data.toList.drop p).take (Utf8.decode s p).2=chunk (keyR s (p,(Utf8.decode s p).1)):=by
 have hp:=decode_pos s p
 have ht:=dec_top s p
 have hl:0<(s.data.toList.drop p).length:=by
  have:s.data.toList.length=s.size:=by simp
  rw[List.length_drop];omega
 unfold keyR chunk
 by_cases hb:(Utf8.decode s p).1=65533∧(Utf8.decode s p).2<2
 ·have hr:=byteAt_range s p
  rw[if_pos hb,if_pos (by dsimp only;omega),show (Utf8.decode s p).2=1 by omega,Lib.takeA _ hl]
  congr 1
  have e:(1114112+byteAt s p-1114112).toNat=(s.data.toList.getD p 0).toNat:=by unfold byteAt;omega
  dsimp only
  rw[e]
  have:(List.drop p s.data.toList).getD 0 0=s.data.toList.getD p 0:=by simp[List.getD_eq_getElem?_getD]
  rw[this];simp
 ·rw[if_neg hb,if_neg (by dsimp only;omega)]
  have:=Lib.encode_decode (s.data.toList.drop p) (List.length_pos_iff.1 hl) (by rw[dec_L];omega)
  rw[dec_L] at this
  exact this.symm
theorem keys_inj_from {s t:ByteArray}:∀(n p q:Nat),s.size-p≤n→(runesFrom s p).map (keyR s)=(runesFrom t q).map (keyR t)→s.data.toList.drop p=t.data.toList.drop q:=by
 have ls:s.data.toList.length=s.size:=by simp
 have lt:t.data.toList.length=t.size:=by simp
 intro n
 induction n with
 | zero=>
  intro p q hn h
  rw[runesFrom_end (by omega)] at h
  by_cases hq:q<t.size
  ·rw[runesFrom_step hq] at h;simp at h
  ·rw[List.drop_of_length_le (by omega),List.drop_of_length_le (by omega)]
 | succ n ih=>
  intro p q hn h
  by_cases hp:p<s.size
  ·by_cases hq:q<t.size
   ·rw[runesFrom_step hp,runesFrom_step hq] at h
    simp only[List.map_cons,List.cons.injEq] at h
    have h1:=decode_pos s p
    have:=ih (p+(Utf8.decode s p).2) (q+(Utf8.decode t q).2) (by omega) h.2
    rw[←List.drop_drop,←List.drop_drop] at this
    have e1:=key_chunk hp
    have e2:=key_chunk hq
    rw[h.1] at e1
    rw[←List.take_append_drop (Utf8.decode s p).2 (s.data.toList.drop p),e1,this,←e2,List.take_append_drop]
   ·rw[runesFrom_step hp,runesFrom_end (s:=t) (by omega)] at h;simp at h
  ·rw[runesFrom_end (by omega)] at h
   by_cases hq:q<t.size
   ·rw[runesFrom_step hq] at h;simp at h
   ·rw[List.drop_of_length_le (by omega),List.drop_of_length_le (by omega)]
theorem keys_inj {s t:ByteArray} (h:keys s=keys t):s=t:=by
 have:=keys_inj_from (s:=s) (t:=t) s.size 0 0 (by omega) (by simpa[keys,runes,runesFrom] using h)
 apply ByteArray.ext
 apply Array.toList_inj.1
 simpa using this
theorem less_irrefl (a:ByteArray):lessB a a=false:=lexB_irrefl _
theorem less_trans {a b c:ByteArray} (h1:lessB a b=true) (h2:lessB b c=true):lessB a c=true:=lexB_trans h1 h2
theorem less_tri (a b:ByteArray):lessB a b=true∨a=b∨lessB b a=true:=by
 rcases lexB_tri (keys a) (keys b) with h | h | h
 ·exact .inl h
 ·exact .inr (.inl (keys_inj h))
 ·exact .inr (.inr h)
theorem less_of_not {a b:ByteArray} (h:lessB a b=false) (hn:a≠b):lessB b a=true:=by
 rcases less_tri a b with h' | h' | h'
 ·rw[h] at h';simp at h'
 ·exact absurd h' hn
 ·exact h'
theorem insH_rise {s:ByteArray} {l:List ByteArray} (h:riseB l) (hs:hasB l s=false):riseB (insH s l):=by
 have hne:∀y∈l,s≠y:=by
  intro y hy
  simp only[hasB,List.any_eq_false,decide_eq_true_eq] at hs
  exact hs y hy
 unfold insH
 unfold riseB at h ⊢
 cases hx:l.findIdx? (fun y=>!lessB y s) with
 | none=>
  dsimp only
  rw[List.findIdx?_eq_none_iff] at hx
  rw[List.pairwise_append]
  refine⟨h,by simp,fun a ha b hb=>?_⟩
  simp only[List.mem_singleton] at hb
  subst hb
  simpa using hx a ha
 | some i=>
  dsimp only
  rw[List.findIdx?_eq_some_iff_getElem] at hx
  obtain⟨hi,h1,h2⟩:=hx
  have hat:lessB s l[i]=true:=less_of_not (by simpa using h1) (fun e=>hne _ (List.getElem_mem hi) e.symm)
  have hd:∀b∈l.drop i,lessB s b=true:=by
   intro b hb
   rw[List.drop_eq_getElem_cons hi,List.mem_cons] at hb
   rcases hb with rfl | hb
   ·exact hat
   ·have hp:=h.sublist (List.drop_sublist i l)
    rw[List.drop_eq_getElem_cons hi,List.pairwise_cons] at hp
    exact less_trans hat (hp.1 b hb)
  have ht:∀a∈l.take i,lessB a s=true:=by
   intro a ha
   obtain⟨j,hj,rfl⟩:=List.getElem_of_mem ha
   simp only[List.length_take] at hj
   have:=h2 j (by omega)
   simpa using this
  have hmix:∀a∈l.take i,∀b∈l.drop i,lessB a b=true:=fun a ha b hb=>less_trans (ht a ha) (hd b hb)
  rw[List.pairwise_append,List.pairwise_append]
  refine⟨⟨h.sublist (List.take_sublist i l),by simp,fun a ha b hb=>?_⟩,h.sublist (List.drop_sublist i l),fun a ha b hb=>?_⟩
  ·simp only[List.mem_singleton] at hb;subst hb;exact ht a ha
  ·simp only[List.mem_append,List.mem_singleton] at ha
   rcases ha with ha | rfl
   ·exact hmix a ha b hb
   ·exact hd b hb
theorem insN_perm (x:ByteArray):∀l,(insN x l).Perm (x::l)
 | []=>List.Perm.refl _
 | y::l=>by
  unfold insN
  split
  ·exact List.Perm.refl _
  ·exact((insN_perm x l).cons y).trans (List.Perm.swap x y l)
theorem insN_rise {x:ByteArray}:∀{l:List ByteArray},riseB l→x∉l→riseB (insN x l)
 | [],_,_=>by simp[insN,riseB]
 | y::l,h,hx=>by
  unfold insN
  unfold riseB at h ⊢
  simp only[List.mem_cons,not_or] at hx
  split
  ·rename_i hl
   rw[List.pairwise_cons]
   refine⟨fun b hb=>?_,h⟩
   rcases List.mem_cons.1 hb with rfl | hb
   ·exact hl
   ·exact less_trans hl ((List.pairwise_cons.1 h).1 b hb)
  ·rename_i hl
   have hyx:=less_of_not (by simpa using hl) hx.1
   rw[List.pairwise_cons] at h ⊢
   refine⟨fun b hb=>?_,insN_rise h.2 hx.2⟩
   rcases List.mem_cons.1 ((insN_perm x l).mem_iff.1 hb) with rfl | hb
   ·exact hyx
   ·exact h.1 b hb
theorem sortN_go:∀(l acc:List ByteArray),(l.foldl (fun acc x=>insN x acc) acc).Perm (l++acc)∧(riseB acc→(l++acc).Nodup→riseB (l.foldl (fun acc x=>insN x acc) acc))
 | [],acc=>⟨List.Perm.refl _,fun h _=>h⟩
 | x::l,acc=>by
  obtain⟨h1,h2⟩:=sortN_go l (insN x acc)
  have hp:(l++insN x acc).Perm (x::l++acc):=((insN_perm x acc).append_left l).trans List.perm_middle
  refine⟨h1.trans hp,fun hr hn=>h2 (insN_rise hr ?_) (hp.nodup_iff.2 hn)⟩
  simp only[List.cons_append,List.nodup_cons,List.mem_append,not_or] at hn
  exact hn.1.2
theorem sortN_perm (l:List ByteArray):(sortN l).Perm l:=by simpa[sortN] using (sortN_go l []).1
theorem sortN_rise {l:List ByteArray} (h:l.Nodup):riseB (sortN l):=(sortN_go l []).2 List.Pairwise.nil (by simpa using h)
theorem rise_eq:∀{a b:List ByteArray},riseB a→riseB b→a.Perm b→a=b
 | [],b,_,_,h=>by simpa using h.symm.eq_nil
 | x::a,[],_,_,h=>by simpa using h.eq_nil
 | x::a,y::b,ha,hb,h=>by
  have ha':=List.pairwise_cons.1 ha
  have hb':=List.pairwise_cons.1 hb
  have hxy:x=y:=by
   rcases List.mem_cons.1 (h.mem_iff.1 (List.mem_cons_self ..)) with e | hx
   ·exact e
   rcases List.mem_cons.1 (h.mem_iff.2 (List.mem_cons_self ..)) with e | hy
   ·exact e.symm
   have:=less_trans (hb'.1 x hx) (ha'.1 y hy)
   rw[less_irrefl] at this;simp at this
  subst hxy
  rw[rise_eq ha'.2 hb'.2 (List.Perm.cons_inv h)]
end Go.AM.SY
namespace Go.AM.SY
open Go Go.AM
theorem FlOk.mono {f:Fl} {a b:Int} (h:FlOk f a) (hab:a≤b):FlOk f b:={ h with id1:=by have:=h.id1;omega }
theorem deed_keeps {f:Fl} {o:Mo} {floor last:Int} (hf:FlOk f last) (ho:MoOk o) (h0:(deedF f o floor).2=0) (h6:o.kind≠6) :
  (deedF f o floor).1.id=f.id∧(deedF f o floor).1.name=f.name∧FlOk (deedF f o floor).1 last:=by
 unfold deedF at h0 ⊢
 by_cases k0:o.kind=0
 ·rw[if_pos k0] at h0;simp at h0
 rw[if_neg k0] at h0 ⊢
 by_cases k1:o.kind=1
 ·rw[if_pos k1] at h0 ⊢
  unfold appendF at h0 ⊢
  split at h0
  ·simp at h0
  split at h0
  ·simp at h0
  split at h0
  ·simp at h0
  rename_i h1 h2 h3
  rw[if_neg h1,if_neg h2,if_neg h3]
  refine⟨rfl,rfl,{ hf with data:=?_ }⟩
  show (f.data++o.text).size≤600
  rw[ByteArray.size_append];omega
 rw[if_neg k1] at h0 ⊢
 by_cases k2:o.kind=2
 ·rw[if_pos k2] at h0 ⊢
  unfold sealF at h0 ⊢
  split at h0
  ·simp at h0
  split at h0
  ·simp at h0
  rename_i h1 h2
  rw[if_neg h1,if_neg h2]
  simp only[timely,Bool.not_eq_false,Bool.and_eq_true,decide_eq_true_eq] at h2
  exact⟨rfl,rfl,{ hf with until0:=h2.1,until1:=h2.2,opn:=fun h=>by simp at h }⟩
 rw[if_neg k2] at h0 ⊢
 by_cases k3:o.kind=3
 ·rw[if_pos k3] at h0 ⊢
  unfold extendF at h0 ⊢
  split at h0
  ·simp at h0
  split at h0
  ·simp at h0
  split at h0
  ·simp at h0
  rename_i h1 h2 h3
  rw[if_neg h1,if_neg h2,if_neg h3]
  simp only[timely,Bool.not_eq_false,Bool.and_eq_true,decide_eq_true_eq] at h2
  exact⟨rfl,rfl,{ hf with until0:=h2.1,until1:=h2.2,opn:=fun h=>absurd h h1 }⟩
 rw[if_neg k3] at h0 ⊢
 by_cases k4:o.kind=4
 ·rw[if_pos k4] at h0 ⊢
  unfold holdF at h0 ⊢
  repeat' split at h0
  all_goals first | (simp at h0;done) | skip
  rename_i g1 g2 g3 g4
  rw[if_neg g1,if_neg g2,if_neg g3,if_neg g4]
  refine⟨rfl,rfl,{ hf with hold:=?_,hsz:=?_,hname:=?_,rise:=?_,nil:=by simp,opn:=fun h=>absurd h g1 }⟩
  ·show (insH _ _).length≤4
   rw[insH_len];omega
  ·intro s hs
   rcases insH_mem hs with rfl | hs
   ·exact ho.text
   ·exact hf.hsz s hs
  ·intro s hs
   rcases insH_mem hs with rfl | hs
   ·simpa using g2
   ·exact hf.hname s hs
  ·exact insH_rise hf.rise (by simpa using g3)
 rw[if_neg k4] at h0 ⊢
 by_cases k5:o.kind=5
 ·rw[if_pos k5] at h0 ⊢
  unfold releaseF at h0 ⊢
  split at h0
  ·rename_i i hi
   have hsub:=List.eraseIdx_sublist f.holds i
   refine⟨rfl,rfl,{ hf with hold:=Nat.le_trans hsub.length_le hf.hold,hsz:=fun s hs=>hf.hsz s (hsub.mem hs),hname:=fun s hs=>hf.hname s (hsub.mem hs),rise:=hf.rise.sublist hsub,nil:=fun h=>?_,opn:=fun h=>⟨(hf.opn h).1,?_⟩ }⟩
   ·show f.holds.eraseIdx i=[]
    rw[hf.nil h];rfl
   ·show f.holds.eraseIdx i=[]
    rw[(hf.opn h).2];rfl
  ·simp at h0
 rw[if_neg k5,if_neg h6] at h0
 simp at h0
theorem findM_is {s:St} {n:ByteArray} {i:Nat} (h:findM s n=some i):∃hi:i<s.files.length,s.files[i].name=n:=by
 obtain⟨hi,h⟩:=findIdx_is h
 exact⟨hi,by simpa using h⟩
theorem pairwise_set {α:Type} {R:α→α→Prop} {l:List α} {i:Nat} {x:α} (hi:i<l.length) (h:l.Pairwise R) (h1:∀a,R a l[i]→R a x) (h2:∀a,R l[i] a→R x a):(l.set i x).Pairwise R:=by
 rw[List.pairwise_iff_getElem] at h ⊢
 intro a b ha hb hab
 simp only[List.length_set] at ha hb
 have:=h a b ha hb hab
 simp only[List.getElem_set]
 split
 ·rename_i e;subst e
  rw[if_neg (by omega)]
  exact h2 _ this
 ·split
  ·rename_i e;subst e;exact h1 _ this
  ·exact this
theorem create_ok {s:St} {o:Mo} (hs:StOk s) (ho:MoOk o):StOk (createM s o).st:=by
 unfold createM
 split
 ·exact hs
 split
 ·exact hs
 split
 ·exact hs
 split
 ·exact hs
 rename_i h1 h2 h3 h4
 have l0:=hs.last0
 have hnew:FlOk ⟨s.last+1,o.name,bs [],false,0,false,[]⟩ (s.last+1):=
  {id0:=by show 1≤s.last+1;omega,id1:=Int.le_refl _,name:=by simpa using h1,nsz:=ho.name,data:=by show (bs []).size≤600;decide,until0:=by simp,until1:=by simp,hold:=by simp,hsz:=by simp,hname:=by simp,rise:=List.Pairwise.nil,nil:=fun _=>rfl,opn:=fun _=>⟨rfl,rfl⟩ }
 have hno:∀f∈s.files,f.name≠o.name:=by
  intro f hf e
  refine h2 (findI_nonneg.2 ?_)
  simp only[List.any_eq_true,decide_eq_true_eq]
  exact⟨f,hf,e⟩
 refine { len:=by simp;omega,nil:=by simp,last0:=by show 0≤s.last+1;omega,last1:=by show s.last+1≤_;omega,floor0:=hs.floor0,floor1:=hs.floor1,files:=?_,rise:=?_,names:=?_ }
 ·intro f hf
  simp only[List.mem_append,List.mem_singleton] at hf
  rcases hf with hf | rfl
  ·exact(hs.files f hf).mono (by show s.last≤s.last+1;omega)
  ·exact hnew
 ·rw[List.pairwise_append]
  refine⟨hs.rise,by simp,fun a ha b hb=>?_⟩
  simp only[List.mem_singleton] at hb;subst hb
  have:=(hs.files a ha).id1
  show a.id<s.last+1
  omega
 ·rw[List.pairwise_append]
  refine⟨hs.names,by simp,fun a ha b hb=>?_⟩
  simp only[List.mem_singleton] at hb;subst hb
  exact hno a ha
theorem erase_ok {s:St} (hs:StOk s) {l:List Fl} (hl:l.Sublist s.files):StOk { s with files:=l }:=
 {len:=Nat.le_trans hl.length_le hs.len
  nil:=fun h=>by have:=hs.nil h;rw[this] at hl;exact List.sublist_nil.1 hl
  last0:=hs.last0,last1:=hs.last1,floor0:=hs.floor0,floor1:=hs.floor1
  files:=fun f hf=>hs.files f (hl.mem hf)
  rise:=hs.rise.sublist hl,names:=hs.names.sublist hl }
theorem change_ok {sum:ByteArray→List Int} {s:St} {o:Mo} (hs:StOk s) (ho:MoOk o):StOk (changeM sum s o).st:=by
 unfold changeM
 split
 ·exact hs
 rename_i i hi
 split
 ·exact hs
 rename_i f hf
 obtain⟨hl,rfl⟩:=List.getElem?_eq_some_iff.1 hf
 split
 ·rename_i h0
  split
  ·exact erase_ok hs (List.eraseIdx_sublist s.files i)
  ·rename_i h6
   have hd:(deedF s.files[i] o s.floor).2=0:=by
    unfold fileDo at h0
    split at h0
    ·assumption
    ·exact h0
   obtain⟨e1,e2,e3⟩:=deed_keeps (hs.files _ (List.getElem_mem hl)) ho hd h6
   have hfd:(fileDo sum s.files[i] o s.floor).1=(deedF s.files[i] o s.floor).1:=by unfold fileDo;rw[if_pos hd]
   rw[hfd]
   refine { len:=by simpa using hs.len,nil:=fun h=>?_,last0:=hs.last0,last1:=hs.last1,floor0:=hs.floor0,floor1:=hs.floor1,files:=fun f hf=>?_,rise:=?_,names:=?_ }
   ·exact absurd hl (by rw[hs.nil h];simp)
   ·rcases List.mem_or_eq_of_mem_set hf with hf | rfl
    ·exact hs.files f hf
    ·exact e3
   ·exact pairwise_set hl hs.rise (fun a h=>by rw[e1];exact h) (fun a h=>by rw[e1];exact h)
   ·exact pairwise_set hl hs.names (fun a h=>by rw[e2];exact h) (fun a h=>by rw[e2];exact h)
 ·exact hs
theorem floorN_range {f t:Int} (h0:0≤f) (h1:f≤1099511627776):f≤floorN f t∧floorN f t≤1099511627776:=by
 unfold floorN;omega
theorem tick_ok {s:St} {o:Mo} (hs:StOk s):StOk (tickM s o).st:=by
 unfold tickM
 split
 ·exact hs
 ·have:=floorN_range (t:=o.time) hs.floor0 hs.floor1
  have h0:=hs.floor0
  exact { hs with floor0:=by show 0≤floorN _ _;omega,floor1:=this.2 }
theorem do_ok {sum:ByteArray→List Int} {s:St} {o:Mo} (hs:StOk s) (ho:MoOk o):StOk (doM sum s o).st:=by
 unfold doM
 repeat' split
 ·exact hs
 ·exact hs
 ·exact create_ok hs ho
 ·exact tick_ok hs
 ·exact erase_ok hs (List.filter_sublist)
 ·unfold readM;repeat' split
  all_goals exact hs
 ·unfold statM;repeat' split
  all_goals exact hs
 ·exact hs
 ·exact change_ok hs ho
structure Run where
 st:St
 nnA:Bool
 ans:List An
 nnE:Bool
 evs:List Ev
def runFrom (sum:ByteArray→List Int):List Mo→Run→Run
 | [],r=>r
 | o::l,r=>runFrom sum l ⟨(doM sum r.st o).st,true,r.ans++[(doM sum r.st o).an],r.nnE||!(doM sum r.st o).evs.isEmpty,r.evs++(doM sum r.st o).evs⟩
def run0 (s:St):Run:=⟨s,false,[],false,[]⟩
def runM (sum:ByteArray→List Int) (s:St) (l:List Mo):Run:=runFrom sum l (run0 s)
def emptyS:St:=⟨false,[],0,0⟩
theorem emptyS_ok:StOk emptyS:=⟨by simp[emptyS],fun _=>rfl,by simp[emptyS],by simp[emptyS],by simp[emptyS],by simp[emptyS],by simp[emptyS],List.Pairwise.nil,List.Pairwise.nil⟩
end Go.AM.SY
namespace Go.AM.SY
open Go Go.AM
@[simp] theorem bs_size:(bs []).size=0:=rfl
@[simp] theorem ba_beq (a:ByteArray):(a==a)=true:=by
 cases a;rename_i d
 show (d==d)=true
 simp
theorem ba_eq {a b:ByteArray}:(a==b)=true↔a=b:=by
 constructor
 ·intro h
  cases a;cases b;rename_i d e
  have h':(d==e)=true:=h
  simp at h'
  rw[h']
 ·rintro rfl;exact ba_beq _
theorem fileDo_name {sum:ByteArray→List Int} {f:Fl} {o:Mo} {floor last:Int} (hf:FlOk f last) (ho:MoOk o) (h0:(fileDo sum f o floor).2.2=0) :
  (deedF f o floor).2=0∧(fileDo sum f o floor).1=(deedF f o floor).1∧(fileDo sum f o floor).2.1=tellE sum f o:=by
 have hd:(deedF f o floor).2=0:=by
  unfold fileDo at h0
  split at h0
  ·assumption
  ·exact h0
 unfold fileDo
 rw[if_pos hd]
 exact⟨hd,rfl,rfl⟩
theorem do_last {sum:ByteArray→List Int} {s:St} {o:Mo} (hs:StOk s):s.last≤(doM sum s o).st.last∧∀e∈(doM sum s o).evs,e.id≤(doM sum s o).st.last:=by
 have l0:=hs.last0
 unfold doM
 split
 ·exact⟨Int.le_refl _,by simp[stay]⟩
 split
 ·exact⟨Int.le_refl _,by simp[stay]⟩
 split
 ·unfold createM
  repeat' split
  all_goals first | exact⟨Int.le_refl _,by simp[stay]⟩ | skip
  exact⟨by show s.last≤s.last+1;omega,by simp⟩
 split
 ·unfold tickM
  split
  ·exact⟨Int.le_refl _,by simp⟩
  ·exact⟨Int.le_refl _,by simpa using l0⟩
 split
 ·refine⟨Int.le_refl _,fun e he=>?_⟩
  simp only[sweepM,dueL,List.mem_map,List.mem_filter] at he
  obtain⟨_,⟨f,hf,rfl⟩,rfl⟩:=he
  exact(hs.files f hf.1).id1
 split
 ·unfold readM;repeat' split
  all_goals exact⟨Int.le_refl _,by simp[stay]⟩
 split
 ·unfold statM;repeat' split
  all_goals exact⟨Int.le_refl _,by simp[stay]⟩
 split
 ·exact⟨Int.le_refl _,by simp[listM]⟩
 ·unfold changeM
  split
  ·exact⟨Int.le_refl _,by simp[stay]⟩
  rename_i i hi
  split
  ·exact⟨Int.le_refl _,by simp[stay]⟩
  rename_i f hf
  obtain⟨hl,rfl⟩:=List.getElem?_eq_some_iff.1 hf
  split
  ·rename_i h0
   have hid:(fileDo sum s.files[i] o s.floor).2.1.id≤s.last:=by
    unfold fileDo
    split
    ·exact(hs.files _ (List.getElem_mem hl)).id1
    ·exact l0
   split
   ·exact⟨Int.le_refl _,by simpa using hid⟩
   ·exact⟨Int.le_refl _,by simpa using hid⟩
  ·exact⟨Int.le_refl _,by simp[stay]⟩
theorem evB_of {e:Ev} (h0:0≤e.kind) (h7:e.kind≤7) (hc:evEq (evCanon e) e=true) (hn:e.kind=0∨e.kind=4∨e.kind=5→nameB e.name=true) (hid:e.kind=7∨(1≤e.id∧e.id≤1099511627776)) (ht:0≤e.time∧e.time≤1099511627776)
  (hl:(if e.kind=1 then 1 else 0)≤e.len∧e.len≤600):evB e=true:=by
 unfold evB
 simp only[Bool.and_eq_true,Bool.or_eq_true,decide_eq_true_eq]
 refine⟨⟨h0,h7⟩,hc,?_,hid,ht,hl⟩
 by_cases h:e.kind=0∨e.kind=4∨e.kind=5
 ·exact .inr (hn h)
 ·exact .inl h
theorem bs_ne {s:ByteArray} (h:s≠bs []):1≤s.size:=by
 rcases Nat.eq_zero_or_pos s.size with h0 | h0
 ·refine absurd ?_ h
  apply ByteArray.ext
  have:s.data.size=0:=h0
  exact Array.eq_empty_of_size_eq_zero this
 ·exact h0
theorem tell_ok {sum:ByteArray→List Int} (hsum:∀s,(sum s).length=32) {f:Fl} {o:Mo} {floor last:Int} (hl:last≤1099511627776) (hf:FlOk f last) (ho:MoOk o) (h:(deedF f o floor).2=0) :
  evB (tellE sum f o)=true∧(tellE sum f o).name.size≤1000∧(tellE sum f o).sum.length=32:=by
 have i0:=hf.id0
 have i1:=hf.id1
 have hb:(bs []).size=0:=rfl
 obtain⟨kind,name,text,time,a,b⟩:=o
 unfold deedF at h
 dsimp only at h
 have ht:=ho.text
 dsimp only at ht
 by_cases k0:kind=0
 ·rw[if_pos k0] at h;simp at h
 rw[if_neg k0] at h
 by_cases k1:kind=1
 ·rw[if_pos k1] at h;subst k1
  unfold appendF at h
  split at h
  ·simp at h
  split at h
  ·simp at h
  split at h
  ·simp at h
  rename_i h1 h2 h3
  have:=bs_ne h2
  simp only[tellE]
  refine⟨evB_of (by simp) (by simp) (by simp[evCanon,evEq]) (by simp) (.inr ⟨i0,Int.le_trans i1 hl⟩) (by simp) (by simp;omega),by simp,by simp[zeros]⟩
 rw[if_neg k1] at h
 by_cases k2:kind=2
 ·rw[if_pos k2] at h;subst k2
  unfold sealF at h
  split at h
  ·simp at h
  split at h
  ·simp at h
  rename_i h1 h2
  simp only[timely,Bool.not_eq_false,Bool.and_eq_true,decide_eq_true_eq] at h2
  have:=hf.data
  simp only[tellE]
  refine⟨evB_of (by simp) (by simp) (by simp[evCanon,evEq]) (by simp) (.inr ⟨i0,Int.le_trans i1 hl⟩) (by simpa using h2) (by simp;omega),by simp,by simpa using hsum f.data⟩
 rw[if_neg k2] at h
 by_cases k3:kind=3
 ·rw[if_pos k3] at h;subst k3
  unfold extendF at h
  split at h
  ·simp at h
  split at h
  ·simp at h
  split at h
  ·simp at h
  rename_i h1 h2 h3
  simp only[timely,Bool.not_eq_false,Bool.and_eq_true,decide_eq_true_eq] at h2
  simp only[tellE]
  refine⟨evB_of (by simp) (by simp) (by simp[evCanon,evEq]) (by simp) (.inr ⟨i0,Int.le_trans i1 hl⟩) (by simpa using h2) (by simp),by simp,by simp[zeros]⟩
 rw[if_neg k3] at h
 by_cases k4:kind=4
 ·rw[if_pos k4] at h;subst k4
  unfold holdF at h
  repeat' split at h
  all_goals first | (simp at h;done) | skip
  rename_i g1 g2 g3 g4
  simp only[tellE]
  refine⟨evB_of (by simp) (by simp) (by simp[evCanon,evEq]) (fun _=>by simpa using g2) (.inr ⟨i0,Int.le_trans i1 hl⟩) (by simp) (by simp),by simpa using ht,by simp[zeros]⟩
 rw[if_neg k4] at h
 by_cases k5:kind=5
 ·rw[if_pos k5] at h;subst k5
  unfold releaseF at h
  split at h
  ·rename_i i hi
   obtain⟨hi,he⟩:=findIdx_is hi
   simp only[decide_eq_true_eq] at he
   have hnm:=hf.hname _ (List.getElem_mem hi)
   rw[←he] at hnm
   simp only[tellE]
   refine⟨evB_of (by simp) (by simp) (by simp[evCanon,evEq]) (fun _=>by simpa using hnm) (.inr ⟨i0,Int.le_trans i1 hl⟩) (by simp) (by simp),by simpa using ht,by simp[zeros]⟩
  ·simp at h
 rw[if_neg k5] at h
 by_cases k6:kind=6
 ·subst k6
  simp only[tellE]
  refine⟨evB_of (by simp) (by simp) (by simp[evCanon,evEq]) (by simp) (.inr ⟨i0,Int.le_trans i1 hl⟩) (by simp) (by simp),by simp,by simp[zeros]⟩
 ·rw[if_neg k6] at h;simp at h
theorem do_events {sum:ByteArray→List Int} (hsum:∀s,(sum s).length=32) {s:St} {o:Mo} (hs:StOk s) (ho:MoOk o):∀e∈(doM sum s o).evs,evB e=true∧e.name.size≤1000∧e.sum.length=32:=by
 have l0:=hs.last0
 have l1:=hs.last1
 have hb:(bs []).size=0:=rfl
 unfold doM
 split
 ·simp[stay]
 split
 ·simp[stay]
 split
 ·unfold createM
  repeat' split
  all_goals first | (simp[stay];done) | skip
  rename_i h1 h2 h3 h4
  intro e he
  simp only[List.mem_singleton] at he
  subst he
  exact⟨evB_of (by simp) (by simp) (by simp[evCanon,evEq]) (fun _=>by simpa using h1) (.inr ⟨by show 1≤s.last+1;omega,by show s.last+1≤_;omega⟩) (by simp) (by simp),ho.name,by simp[zeros]⟩
 split
 ·unfold tickM
  split
  ·simp
  ·intro e he
   simp only[List.mem_singleton] at he
   subst he
   have:=floorN_range (t:=o.time) hs.floor0 hs.floor1
   have h0:=hs.floor0
   exact⟨evB_of (by simp) (by simp) (by simp[evCanon,evEq]) (by simp) (.inl rfl) ⟨by show 0≤floorN _ _;omega,this.2⟩ (by simp),by simp,by simp[zeros]⟩
 split
 ·intro e he
  simp only[sweepM,dueL,List.mem_map,List.mem_filter] at he
  obtain⟨_,⟨f,hf,rfl⟩,rfl⟩:=he
  have hk:=hs.files f hf.1
  have i1:=hk.id1
  exact⟨evB_of (by simp[delEv]) (by simp[delEv]) (by simp[evCanon,evEq,delEv]) (by simp[delEv]) (.inr ⟨hk.id0,by show f.id≤_;omega⟩) (by simp[delEv]) (by simp[delEv]),by simp[delEv],by simp[zeros,delEv]⟩
 split
 ·unfold readM;repeat' split
  all_goals simp[stay]
 split
 ·unfold statM;repeat' split
  all_goals simp[stay]
 split
 ·simp[listM]
 ·unfold changeM
  split
  ·simp[stay]
  rename_i i hi
  split
  ·simp[stay]
  rename_i f hf
  obtain⟨hl,rfl⟩:=List.getElem?_eq_some_iff.1 hf
  split
  ·rename_i h0
   have hk:=hs.files _ (List.getElem_mem hl)
   obtain⟨hd,_,e2⟩:=fileDo_name hk ho h0
   have:=tell_ok hsum l1 hk ho hd
   rw[←e2] at this
   split
   ·intro e he
    simp only[List.mem_singleton] at he
    subst he;exact this
   ·intro e he
    simp only[List.mem_singleton] at he
    subst he;exact this
  ·simp[stay]
end Go.AM.SY
namespace Go.AM.SY
open Go Go.AM
end Go.AM.SY
namespace Go.AM.SY
open Go Go.AM
theorem bd_some {x:D} {f:D→Option D}:bd (some x) f=f x:=rfl
def w32 (l:List Int):D:=da (l.map (D.int .u32))
theorem w32_set (l:List Int) (i:Nat) (x:Int):D.agg ((w32 l).parts.set i (D.int .u32 x))=w32 (l.set i x):=by
 show D.agg ((l.map (D.int .u32)).set i (D.int .u32 x))=_
 rw[w32,List.map_set]
theorem u64_nonneg (n:Int):0≤IntKind.wrap .u64 n:=by
 simp[IntKind.wrap,IntKind.signed,IntKind.bits];omega
theorem right_spec (x n:Int):∃r,F202.s FUEL x n=some (D.int .u32 r):=by
 have h1:0≤andI .u64 (cv .u64 (sb .i64 0 n)) 31:=u64_nonneg _
 have h2:0≤sb .u64 32 (andI .u64 (cv .u64 (sb .i64 0 n)) 31):=u64_nonneg _
 refine⟨orI .u32 (shlI .u32 x (andI .u64 (cv .u64 (sb .i64 0 n)) 31).toNat) (shrI .u32 x (sb .u64 32 (andI .u64 (cv .u64 (sb .i64 0 n)) 31)).toNat),?_⟩
 unfold F202.s F238.s
 rw[if_neg (by omega),if_neg (by omega)]
 rfl
theorem ml64 {a b:Int} (h1:-9223372036854775808≤a*b) (h2:a*b≤9223372036854775807):ml .i64 a b=a*b:=by
 have:=ad64 (a:=a*b) (b:=0) (by omega) (by omega)
 simpa[ad,ml] using this
theorem words_spec (s:ByteArray) (hs:s.size=64):∃w:List Int,F201.s FUEL s=some (w32 w)∧w.length=64:=by
 unfold F201.s
 refine goS_rule (fun t=>∃(k:Nat) (d3:D) (w:List Int),t=⟨s,(k:Int),d3,w32 w⟩∧k≤64∧w.length=64) (fun t=>64-t.i2.toNat) (fun o=>∃w:List Int,o=some (w32 w)∧w.length=64) ?_ _ _ ⟨0,_,List.replicate 64 0,by rfl,by omega,by simp⟩ (by simp[FUEL])
 rintro _ rec ⟨k,d3,w,rfl,hk,hw⟩ hrec
 simp only[F201.st3]
 by_cases h1:k<64
 ·rw[show cond (ltI (k:Int) 64) _ _=_ from ct (by simp;omega) rfl]
  have hadd:ad .i64 (k:Int) 1=((k+1:Nat):Int):=by rw[ad64 (by omega) (by omega)];rfl
  have fin:∀x:Int,∃w':List Int,rec ⟨s,ad .i64 (k:Int) 1,d3,D.agg ((w32 w).parts.set (Int.toNat (k:Int)) (D.int .u32 x))⟩=some (w32 w')∧w'.length=64:=by
   intro x
   rw[hadd,w32_set]
   exact hrec _ ⟨k+1,d3,_,rfl,by omega,by simpa using hw⟩ (by simp;omega)
  by_cases h2:k<16
  ·have hm:ml .i64 4 (k:Int)=((4*k:Nat):Int):=by rw[ml64 (by omega) (by omega)];omega
   have ha:∀j:Nat,j≤3→ad .i64 ((4*k:Nat):Int) (j:Int)=((4*k+j:Nat):Int):=fun j hj=>by rw[ad64 (by omega) (by omega)];omega
   rw[show cond (ltI (k:Int) 16) _ _=_ from ct (by simp;omega) rfl]
   rw[hm,show (1:Int)=((1:Nat):Int) from rfl,show (2:Int)=((2:Nat):Int) from rfl,show (3:Int)=((3:Nat):Int) from rfl,ha 1 (by omega),ha 2 (by omega),ha 3 (by omega)]
   rw[show cond (inb ((4*k:Nat):Int) s.size) _ _=_ from ct (by simp;omega) rfl,show cond (inb ((4*k+1:Nat):Int) s.size) _ _=_ from ct (by simp;omega) rfl,show cond (inb ((4*k+2:Nat):Int) s.size) _ _=_ from ct (by simp;omega) rfl,show cond (inb ((4*k+3:Nat):Int) s.size) _ _=_ from ct (by simp;omega) rfl,show cond (inb (k:Int) 64) _ _=_ from ct (by simp;omega) rfl]
   exact fin _
  ·have hs15:sb .i64 (k:Int) 15=((k-15:Nat):Int):=by rw[sb64 (by omega) (by omega)];omega
   have hs2:sb .i64 (k:Int) 2=((k-2:Nat):Int):=by rw[sb64 (by omega) (by omega)];omega
   have hs16:sb .i64 (k:Int) 16=((k-16:Nat):Int):=by rw[sb64 (by omega) (by omega)];omega
   have hs7:sb .i64 (k:Int) 7=((k-7:Nat):Int):=by rw[sb64 (by omega) (by omega)];omega
   obtain⟨r5,e5⟩:=right_spec ((w32 w).at (sb .i64 (k:Int) 15).toNat).i 7
   obtain⟨r6,e6⟩:=right_spec ((w32 w).at (sb .i64 (k:Int) 15).toNat).i 18
   obtain⟨r7,e7⟩:=right_spec ((w32 w).at (sb .i64 (k:Int) 2).toNat).i 17
   obtain⟨r8,e8⟩:=right_spec ((w32 w).at (sb .i64 (k:Int) 2).toNat).i 19
   rw[show cond (ltI (k:Int) 16) _ _=_ from cf (by simp;omega) rfl]
   rw[show cond (inb (sb .i64 (k:Int) 15) 64) _ _=_ from ct (by rw[hs15];simp;omega) rfl,show cond (inb (sb .i64 (k:Int) 2) 64) _ _=_ from ct (by rw[hs2];simp;omega) rfl,show cond (inb (sb .i64 (k:Int) 16) 64) _ _=_ from ct (by rw[hs16];simp;omega) rfl]
   rw[e5,bd_some,e6,bd_some,show cond (inb (sb .i64 (k:Int) 7) 64) _ _=_ from ct (by rw[hs7];simp;omega) rfl,e7,bd_some,e8,bd_some,show cond (inb (k:Int) 64) _ _=_ from ct (by simp;omega) rfl]
   exact fin _
 ·rw[show cond (ltI (k:Int) 64) _ _=_ from cf (by simp;omega) rfl]
  exact⟨w,rfl,hw⟩
theorem mix_spec (h k:List Int) (s:ByteArray) (hh:h.length=8) (hs:s.size=64):∃h':List Int,F151.s FUEL (w32 h) (w32 k) s=some (w32 h')∧h'.length=8:=by
 unfold F151.s
 obtain⟨w,hw,hwl⟩:=words_spec s hs
 rw[show cond (Nat.beq (w32 h).parts.length 8) _ _=_ from ct (by simp[w32,hh]) rfl,hw]
 rw[bd_some]
 refine goS_rule (fun t:F151.S3=>∃(j:Nat) (i6 i7 i8 i9 i10 i11 i12 i13:Int) (b14:Bool) (l:List D),t=⟨w32 w,(j:Int),w32 h,w32 k,i6,i7,i8,i9,i10,i11,i12,i13,b14,l⟩∧j≤64∧l.length=8) (fun t=>64-t.i3.toNat) (fun o=>∃h':List Int,o=some (w32 h')∧h'.length=8) ?_ _ _ ⟨0,0,0,0,0,0,0,0,0,true,_,rfl,by omega,by simp[w32,hh]⟩ (by simp[FUEL])
 rintro _ rec ⟨j,i6,i7,i8,i9,i10,i11,i12,i13,b14,l,rfl,hj,hl⟩ hrec
 simp only[F151.st3]
 by_cases h1:j<64
 ·rw[show cond (ltI (j:Int) 64) _ _=_ from ct (by simp;omega) rfl,show ∀a:Option D,cond (inb (j:Int) 64) a none=a from fun a=>ct (by simp;omega) rfl]
  obtain⟨r1,e1⟩:=right_spec (ix l 4).i 6
  obtain⟨r2,e2⟩:=right_spec (ix l 4).i 11
  obtain⟨r3,e3⟩:=right_spec (ix l 4).i 25
  obtain⟨r4,e4⟩:=right_spec (ix l 0).i 2
  obtain⟨r5,e5⟩:=right_spec (ix l 0).i 13
  obtain⟨r6,e6⟩:=right_spec (ix l 0).i 22
  have hc:(true&&true&&true&&(Nat.beq l.length 8))=true:=by simp[hl]
  have hc2:∀a:Option D,cond (inb (j:Int) 64) a none=a:=fun a=>ct (by simp;omega) rfl
  rw[e1,bd_some,e2,bd_some,e3,bd_some,hc2,e4,bd_some,e5,bd_some,e6,bd_some,hc,cond_true,cond_true]
  have hadd:ad .i64 (j:Int) 1=((j+1:Nat):Int):=by rw[ad64 (by omega) (by omega)];rfl
  rw[hadd]
  refine hrec _ ⟨j+1,i6,i7,i8,i9,i10,i11,i12,i13,b14,_,rfl,by omega,?_⟩ ?_
  ·simp[ap,hl]
  ·simp;omega
 ·rw[show cond (ltI (j:Int) 64) _ _=_ from cf (by simp;omega) rfl]
  refine goS_rule (fun t:F151.S13=>∃(m:Nat) (d24:D) (i25 i26 i27 i28 i29 i30 i31 i32:Int) (b33:Bool) (l34:List D) (h:List Int),t=⟨(m:Int),w32 h,d24,i25,i26,i27,i28,i29,i30,i31,i32,b33,l34⟩∧m≤8∧h.length=8) (fun t=>8-t.i22.toNat) (fun o=>∃h':List Int,o=some (w32 h')∧h'.length=8) ?_ _ _ ⟨0,_,i6,i7,i8,i9,i10,i11,i12,i13,b14,l,h,rfl,by omega,hh⟩ (by simp[FUEL])
  rintro _ rec2 ⟨m,d24,i25,i26,i27,i28,i29,i30,i31,i32,b33,l34,g,rfl,hm,hg⟩ hrec2
  simp only[F151.st13]
  by_cases h2:m<8
  ·have hc:∀a:Option D,cond (inb (m:Int) 8) a none=a:=fun a=>ct (by simp;omega) rfl
   rw[show cond (ltI (m:Int) 8) _ _=_ from ct (by simp;omega) rfl,hc,hc,hc,w32_set]
   have hadd:ad .i64 (m:Int) 1=((m+1:Nat):Int):=by rw[ad64 (by omega) (by omega)];rfl
   rw[hadd]
   exact hrec2 _ ⟨m+1,d24,i25,i26,i27,i28,i29,i30,i31,i32,b33,l34,_,rfl,by omega,by simpa using hg⟩ (by simp;omega)
  ·rw[show cond (ltI (m:Int) 8) _ _=_ from cf (by simp;omega) rfl]
   exact⟨g,rfl,hg⟩
theorem tmod_nat (a b:Nat):remI (nI a) (b:Int)=((a%b:Nat):Int):=by
 simp[remI,nI];rfl
theorem ofBytes_size (l:List D):(ofBytes l).size=l.length:=by
 simp[ofBytes,ByteArray.size]
theorem bytesOf_len (s:ByteArray):(bytesOf s).length=s.size:=by simp[bytesOf]
theorem pad_spec (b:ByteArray) (hb:b.size≤1000000):∃t,F150.s FUEL b=some (dS t)∧t.size%64=0∧t.size≤b.size+72:=by
 unfold F150.s
 rw[show cond (mx b.size) _ _=_ from ct (by simp;omega) rfl,show cond (mx (b.size+1)) _ _=_ from ct (by simp;omega) rfl]
 refine goS_rule (fun t:F150.S2=>∃(l:List D) (b4:Bool),t=⟨b,0,l.length,b4,l⟩∧l.length≤b.size+64∧(l.length%64=56∨l.length+(120-l.length%64)%64≤b.size+64)) (fun t=>(120-t.n3%64)%64) (fun o=>∃t,o=some (dS t)∧t.size%64=0∧t.size≤b.size+72) ?_ _ _ ⟨ap (((bytesOf b).drop 0).take b.size) [D.int .u8 128],true,?_,?_,?_⟩ (by simp[FUEL];omega)
 ·rintro _ rec ⟨l,b4,rfl,hl,hl2⟩ hrec
  simp only[F150.st2]
  have hrem:=tmod_nat l.length 64
  rw[show ((64:Nat):Int)=64 from rfl] at hrem
  rw[hrem]
  by_cases h1:l.length%64=56
  ·rw[show cond (neI ((l.length%64:Nat):Int) 56) _ _=_ from cf (by simp;omega) rfl]
   refine goS_rule (fun t:F150.S6=>∃(m:List D) (i8:Int) (k:Nat) (b10:Bool),t=⟨0,m.length,i8,(k:Int)-1,b10,m⟩∧k≤8∧m.length=l.length+(8-k)) (fun t=>(t.i9+1).toNat) (fun o=>∃t,o=some (dS t)∧t.size%64=0∧t.size≤b.size+72) ?_ _ _ ⟨l,_,8,b4,rfl,by omega,by omega⟩ (by simp[FUEL])
   rintro _ rec2 ⟨m,i8,k,b10,rfl,hk,hm⟩ hrec2
   simp only[F150.st6]
   by_cases h2:1≤k
   ·have hml:ml .i64 8 ((k:Int)-1)=8*((k:Int)-1):=by rw[ml64 (by omega) (by omega)]
    rw[show cond (geI ((k:Int)-1) 0) _ _=_ from ct (by simp;omega) rfl,hml,if_neg (by omega)]
    rw[bd_some]
    rw[show cond (mx (m.length+1)) _ _=_ from ct (by simp;omega) rfl]
    have step:∀(x:D) (bb:Bool),∃t,rec2 ⟨0,m.length+1,i8,sb .i64 ((k:Int)-1) 1,bb,ap ((m.drop 0).take m.length) [x]⟩=some (dS t)∧t.size%64=0∧t.size≤b.size+72:=by
     intro x bb
     have e1:(ap ((m.drop 0).take m.length) [x]).length=m.length+1:=by simp[ap]
     have e2:sb .i64 ((k:Int)-1) 1=((k-1:Nat):Int)-1:=by rw[sb64 (by omega) (by omega)];omega
     refine hrec2 _ ⟨ap ((m.drop 0).take m.length) [x],i8,k-1,bb,by rw[e1,e2],by omega,by omega⟩ ?_
     rw[e2];dsimp only;omega
    exact step _ _
   ·rw[show cond (geI ((k:Int)-1) 0) _ _=_ from cf (by simp;omega) rfl]
    refine⟨_,rfl,?_,?_⟩
    ·rw[ofBytes_size];simp;omega
    ·rw[ofBytes_size];simp;omega
  ·rw[show cond (neI ((l.length%64:Nat):Int) 56) _ _=_ from ct (by simp;omega) rfl,show cond (mx (l.length+1)) _ _=_ from ct (by simp;omega) rfl]
   have step:∀(x:D) (bb:Bool),∃t,rec ⟨b,0,l.length+1,bb,ap ((l.drop 0).take l.length) [x]⟩=some (dS t)∧t.size%64=0∧t.size≤b.size+72:=by
    intro x bb
    have e1:(ap ((l.drop 0).take l.length) [x]).length=l.length+1:=by simp[ap]
    refine hrec _ ⟨ap ((l.drop 0).take l.length) [x],bb,by rw[e1],by omega,by omega⟩ ?_
    dsimp only;omega
   exact step _ _
 ·rw[F150.S2.mk.injEq]
  refine⟨rfl,rfl,?_,rfl,rfl⟩
  simp[ap,bytesOf_len]
 ·simp[ap,bytesOf_len]
 ·simp[ap,bytesOf_len];omega
def H0:List Int:=[1779033703,3144134277,1013904242,2773480762,1359893119,2600822924,528734635,1541459225]
def K0:List Int:=[1116352408,1899447441,3049323471,3921009573,961987163,1508970993,2453635748,2870763221,
 3624381080,310598401,607225278,1426881987,1925078388,2162078206,2614888103,3248222580,
 3835390401,4022224774,264347078,604807628,770255983,1249150122,1555081692,1996064986,
 2554220882,2821834349,2952996808,3210313671,3336571891,3584528711,113926993,338241895,
 666307205,773529912,1294757372,1396182291,1695183700,1986661051,2177026350,2456956037,
 2730485921,2820302411,3259730800,3345764771,3516065817,3600352804,4094571909,275423344,
 430227734,506948616,659060556,883997877,958139571,1322822218,1537002063,1747873779,
 1955562222,2024104815,2227730452,2361852424,2428436474,2756734187,3204031479,3329325298]
end Go.AM.SY
namespace Go.AM.SY
open Go Go.AM
set_option maxRecDepth 1000000 in
theorem const_spec:F149.s FUEL=some (.tup [w32 H0,w32 K0]):=by kernel_rfl
end Go.AM.SY
namespace Go.AM.SY
open Go Go.AM
theorem quo4 (k:Nat) (hk:k<32):quoI .i64 (k:Int) 4=((k / 4:Nat):Int):=by
 have h1:(k:Int).tdiv 4=((k / 4:Nat):Int):=rfl
 unfold quoI
 rw[h1]
 have:=ad64 (a:=((k / 4:Nat):Int)) (b:=0) (by omega) (by omega)
 simpa[ad] using this
theorem of_spec_ex (b:ByteArray) (hb:b.size≤1000000):∃l:List Int,F93.s FUEL b=some (sumD l)∧l.length=32:=by
 unfold F93.s
 obtain⟨t,ht,h1,h2⟩:=pad_spec b hb
 rw[const_spec,bd_some,ht,bd_some]
 refine goS_rule (fun s:F93.S3=>∃(t:ByteArray) (d:D) (h:List Int),s=⟨dS t,d,w32 h,w32 K0⟩∧t.size%64=0∧t.size≤b.size+72∧h.length=8) (fun s=>s.d3.s.size) (fun o=>∃l:List Int,o=some (sumD l)∧l.length=32) ?_ _ _ ⟨t,_,H0,rfl,h1,h2,rfl⟩ (by simp[FUEL];omega)
 rintro _ rec ⟨t,d,h,rfl,h1,h2,h3⟩ hrec
 simp only[F93.st3]
 have hds:(dS t).s=t:=rfl
 rw[hds]
 by_cases h0:0<t.size
 ·have h64:64≤t.size:=by omega
  rw[show cond (gtI (nI t.size) 0) _ _=_ from ct (by simp;omega) rfl,show (true&&true&&(leI 64 (nI t.size))&&(leI (nI t.size) (nI t.size)))=true from by simp;omega,
   show (true&&(leI 64 (nI t.size))&&(leI (nI t.size) (nI t.size))&&(leI (nI t.size) (nI t.size)))=true from by simp;omega,cond_true]
  obtain⟨h',e1,e2⟩:=mix_spec h K0 (t.extract 0 64) h3 (by simp;omega)
  rw[e1,bd_some,cond_true]
  refine hrec _ ⟨t.extract 64 t.size,d,h',rfl,?_,?_,e2⟩ ?_
  ·simp;omega
  ·simp;omega
  ·simp;omega
 ·rw[show cond (gtI (nI t.size) 0) _ _=_ from cf (by simp only[gtI_f,nI_eq];omega) rfl]
  refine goS_rule (fun s:F93.S8=>∃(k:Nat) (d9 d11:D) (l:List Int),s=⟨(k:Int),d9,w32 h,d11,sumD l⟩∧k≤32∧l.length=32) (fun s=>32-s.i8.toNat) (fun o=>∃l:List Int,o=some (sumD l)∧l.length=32) ?_ _ _ ⟨0,_,_,zeros,rfl,by omega,rfl⟩ (by simp[FUEL])
  rintro _ rec2 ⟨k,d9,d11,l,rfl,hk,hl⟩ hrec2
  simp only[F93.st8]
  by_cases hk2:k<32
  ·have hadd:ad .i64 (k:Int) 1=((k+1:Nat):Int):=by rw[ad64 (by omega) (by omega)];rfl
   have hrem:=tmod_nat k 4
   rw[show ((4:Nat):Int)=4 from rfl,nI_eq] at hrem
   have hml:ml .i64 8 ((k%4:Nat):Int)=((8*(k%4):Nat):Int):=by rw[ml64 (by omega) (by omega)];omega
   have hsb:sb .i64 24 ((8*(k%4):Nat):Int)=((24-8*(k%4):Nat):Int):=by rw[sb64 (by omega) (by omega)];omega
   rw[show cond (ltI (k:Int) 32) _ _=_ from ct (by simp;omega) rfl,quo4 k hk2,hrem,hml,hsb,show cond (inb ((k / 4:Nat):Int) 8) _ _=_ from ct (by simp;omega) rfl,if_neg (by omega)]
   rw[bd_some]
   rw[show cond (inb (k:Int) 32) _ _=_ from ct (by simp;omega) rfl,hadd]
   have step:∀x:Int,∃l':List Int,rec2 ⟨((k+1:Nat):Int),d9,w32 h,d11,D.agg ((sumD l).parts.set (Int.toNat (k:Int)) (D.int .u8 x))⟩=some (sumD l')∧l'.length=32:=by
    intro x
    have e:D.agg ((sumD l).parts.set (Int.toNat (k:Int)) (D.int .u8 x))=sumD (l.set k x):=by
     unfold sumD
     rw[List.map_set]
     rfl
    rw[e]
    exact hrec2 _ ⟨k+1,d9,d11,l.set k x,rfl,by omega,by simpa using hl⟩ (by simp;omega)
   exact step _
  ·rw[show cond (ltI (k:Int) 32) _ _=_ from cf (by simp;omega) rfl]
   exact⟨l,rfl,hl⟩
def shaL (b:ByteArray):List Int:=match F93.s FUEL b with
 | some (.agg ds)=>if ds.length=32 then ds.map D.i else zeros
 | _=>zeros
theorem shaL_len (b:ByteArray):(shaL b).length=32:=by
 unfold shaL
 split
 ·split
  ·simpa
  ·rfl
 ·rfl
theorem sha_spec (b:ByteArray) (hb:b.size≤1000000):F93.s FUEL b=some (sumD (shaL b)):=by
 obtain⟨l,h1,h2⟩:=of_spec_ex b hb
 have:shaL b=l:=by
  unfold shaL
  rw[h1]
  simp only[sumD]
  rw[if_pos (by simpa using h2),List.map_map]
  have:D.i∘D.int IntKind.u8=id:=rfl
  rw[this,List.map_id]
 rw[this,h1]
end Go.AM.SY
namespace Go.AM.SY
open Go Go.AM
theorem wrong_spec (e:Int):F77.s FUEL e=some (wrongA e).enc:=rfl
theorem find_specM (s:St) (n:ByteArray) (hl:s.files.length≤1048576):F31.s FUEL s.enc n=some (di (findI (fun f:Fl=>decide (f.name=n)) s.files)):=by
 unfold F31.s
 have h0:s.enc.at 0=dl s.nn (s.files.map Fl.enc):=rfl
 rw[h0]
 refine goS_rule (fun t:F31.S78_2=>∃k:Nat,t=⟨dl s.nn (s.files.map Fl.enc),nI s.files.length,(k:Int),s.enc,n⟩∧k≤s.files.length∧∀i (h:i<s.files.length),i<k→decide (s.files[i].name=n)=false) (fun t=>s.files.length-t.i3.toNat) (fun o=>o=some (di (findI (fun f:Fl=>decide (f.name=n)) s.files))) ?_ _ _ ⟨0,by simp,by omega,by omega⟩ (by simp[FUEL];omega)
 rintro _ rec ⟨k,rfl,hk,hs⟩ hrec
 simp only[F31.st78_2]
 by_cases h1:k<s.files.length
 ·refine ct (by simp;omega) (ct (by simp;omega) ?_)
  simp only[elems_slice,Int.toNat_natCast,ix_map h1]
  by_cases h2:s.files[k].name=n
  ·refine ct (by show eqS s.files[k].name n=true;simpa using h2) ?_
   rw[findI,findIdx_some_of h1 hs (by simpa using h2)]
  ·refine cf (by show eqS s.files[k].name n=false;simpa using h2) (hrec _ ⟨k+1,?_,by omega,?_⟩ ?_)
   ·rw[ad64 (by omega) (by omega)];rfl
   ·intro i hi hik
    by_cases hik':i=k
    ·subst hik';simpa using h2
    ·exact hs i hi (by omega)
   ·rw[ad64 (by omega) (by omega)];simp;omega
 ·refine cf (by simp;omega) ?_
  rw[findI,findIdx_none_of (fun i hi=>hs i hi (by omega))]
theorem numbered_spec (n:Int):F163.s FUEL n=some (db (decide (1≤n)&&decide (n≤1099511627776))):=by
 unfold F163.s
 by_cases h:1≤n
 ·exact ct (by simpa using h) (by simp[h,leI])
 ·exact cf (by simp;omega) (by simp[h])
theorem new_spec (id:Int) (s:ByteArray) (hs:s.size≤1048576):F174.s FUEL id s=some (.tup [(newF id s).1.enc,di (newF id s).2]):=by
 unfold F174.s newF
 refine bdS (name_spec s hs) ?_
 cases hv:nameB s with
 | false=>exact ct rfl rfl
 | true=>
  refine cf rfl (bdS (numbered_spec id) ?_)
  by_cases h:1≤id∧id≤1099511627776
  ·rw[if_neg (by simp),if_pos h]
   exact cf (by simp[h.1,h.2]) rfl
  ·rw[if_neg (by simp),if_neg h]
   exact ct (by simp;omega) rfl
theorem clone_files (nn:Bool) (l:List D) (h:nn=false→l=[]) (hl:l.length≤1073741824):F175.s FUEL (dl nn l)=some (dl nn l):=by
 unfold F175.s
 cases nn with
 | false=>rw[h rfl];rfl
 | true=>exact cf rfl (ct (by simpa using hl) (ct (by simp) rfl))
theorem append_spec (f:Fl) (s:ByteArray) (hf:f.data.size≤1000000) (hs:s.size≤1000000):F253.s FUEL f.enc s=some (.tup [(appendF f s).1.enc,di (appendF f s).2]):=by
 unfold F253.s appendF
 have h3:(f.enc.at 3).b=f.sealed:=rfl
 have h2:(f.enc.at 2).s=f.data:=rfl
 rw[h3,h2]
 by_cases hse:f.sealed=true
 ·rw[if_pos hse];exact ct hse rfl
 ·refine cf (by simpa using hse) ?_
  rw[if_neg hse]
  by_cases h0:s=bs []
  ·rw[if_pos h0];exact ct (by simpa using h0) (by subst h0;rfl)
  rw[if_neg h0]
  refine cf (by simpa using h0) ?_
  have ha:ad .i64 (nI f.data.size) (nI s.size)=((f.data.size+s.size:Nat):Int):=by rw[nI_eq,nI_eq,ad64 (by omega) (by omega)];omega
  rw[ha]
  by_cases h1:600<f.data.size+s.size
  ·rw[if_pos h1];exact ct (by simp;omega) rfl
  ·rw[if_neg h1]
   refine cf (by simp;omega) (bdS (x:=dS (f.data++s)) ?_ rfl)
   unfold cat
   rw[if_pos (by have:(1000000000000:Nat)≤maxInt:=by decide
                 omega)]
theorem read_spec (f:Fl) (a b:Int):F183.s FUEL f.enc a b=some (.tup [dS (readF f a b).1,di (readF f a b).2]):=by
 unfold F183.s readF
 have h2:(f.enc.at 2).s=f.data:=rfl
 rw[h2]
 by_cases h0:a<0
 ·rw[if_pos h0];exact ct (by simpa using h0) rfl
 rw[if_neg h0]
 refine cf (by simp;omega) ?_
 by_cases h1:b<a
 ·rw[if_pos h1];exact ct (by simpa using h1) rfl
 rw[if_neg h1]
 refine cf (by simp;omega) ?_
 by_cases h3:(f.data.size:Int)<b
 ·rw[if_pos h3];exact ct (by simpa using h3) rfl
 rw[if_neg h3]
 exact cf (by simp;omega) (ct (by simp;omega) rfl)
theorem meta_spec (f:Fl):F184.s FUEL f.enc=some (metaF f).enc:=rfl
theorem floor_spec (a b:Int):F178.s FUEL a b=some (di (floorN a b)):=by
 unfold F178.s floorN maxi mini
 congr 2
 repeat' split
 all_goals omega
theorem tell_spec (f:Fl) (o:Mo) (hf:f.data.size≤1000000):F229.s FUEL f.enc o.enc=some (tellE shaL f o).enc:=by
 unfold F229.s tellE
 have h0:(o.enc.at 0).i=o.kind:=rfl
 have hd:(f.enc.at 2).s=f.data:=rfl
 rw[h0,hd]
 by_cases h1:o.kind=1
 ·refine ct (by simpa using h1) ?_
  simp only[h1]
  have:o.enc.at 0=di 1:=by rw[←h1];rfl
  rw[this]
  rfl
 refine cf (by simpa using h1) ?_
 by_cases h2:o.kind=2
 ·refine ct (by simpa using h2) (bdS (sha_spec f.data hf) ?_)
  have e1:(if o.kind=4∨o.kind=5 then o.text else bs [])=bs []:=if_neg (by omega)
  have e2:(if o.kind=2∨o.kind=3 then o.time else 0)=o.time:=if_pos (by omega)
  have e3:(if o.kind=1 then (o.text.size:Int) else if o.kind=2 then (f.data.size:Int) else 0)=(f.data.size:Int):=by rw[if_neg h1,if_pos h2]
  have e4:(if o.kind=2 then shaL f.data else zeros)=shaL f.data:=if_pos h2
  rw[e1,e2,e3,e4]
  generalize shaL f.data=L
  rfl
 refine cf (by simpa using h2) ?_
 by_cases h3:o.kind=3
 ·refine ct (by simpa using h3) ?_
  simp only[h3]
  have:o.enc.at 0=di 3:=by rw[←h3];rfl
  rw[this]
  rfl
 refine cf (by simpa using h3) ?_
 by_cases h4:o.kind=4
 ·refine ct (by simpa using h4) (ct (by simpa using h4) ?_)
  simp only[h4]
  have:o.enc.at 0=di 4:=by rw[←h4];rfl
  rw[this]
  rfl
 refine cf (by simpa using h4) ?_
 by_cases h5:o.kind=5
 ·refine ct (by simpa using h5) ?_
  simp only[h5]
  have:o.enc.at 0=di 5:=by rw[←h5];rfl
  rw[this]
  rfl
 ·refine cf (by simpa using h5) ?_
  have e1:(if o.kind=4∨o.kind=5 then o.text else bs [])=bs []:=if_neg (by omega)
  have e2:(if o.kind=2∨o.kind=3 then o.time else 0)=0:=if_neg (by omega)
  have e3:(if o.kind=1 then (o.text.size:Int) else if o.kind=2 then (f.data.size:Int) else 0)=0:=by rw[if_neg h1,if_neg h2]
  have e4:(if o.kind=2 then shaL f.data else zeros)=zeros:=if_neg h2
  rw[e1,e2,e3,e4]
  rfl
theorem fileDo_spec (f:Fl) (o:Mo) (floor last:Int) (hf:FlOk f last) (ho:MoOk o):F176.s FUEL f.enc o.enc floor=some (.tup [(fileDo shaL f o floor).1.enc,(fileDo shaL f o floor).2.1.enc,di (fileDo shaL f o floor).2.2]):=by
 have hd:=hf.data
 have ht:=ho.text
 have htell:=tell_spec f o (by omega)
 unfold F176.s fileDo
 have h0:(o.enc.at 0).i=o.kind:=rfl
 rw[h0]
 have fin:∀(r:Fl×Int),(bd (some (D.tup [r.1.enc,di r.2])) fun r1=>(cond (neI (r1.at 1).i 0) (some (D.tup [f.enc,(da [(di 0),(di 0),(dS (bs [])),(di 0),(di 0),(da (rp 32 (D.int .u8 0)))]),(r1.at 1)])) (bd (F229.s FUEL f.enc o.enc) fun r2=>(some (D.tup [(r1.at 0),r2,(di 0)]))))) =
   some (.tup [(if r.2=0 then (r.1,tellE shaL f o,(0:Int)) else (f,zeroEv,r.2)).1.enc,(if r.2=0 then (r.1,tellE shaL f o,(0:Int)) else (f,zeroEv,r.2)).2.1.enc,di (if r.2=0 then (r.1,tellE shaL f o,(0:Int)) else (f,zeroEv,r.2)).2.2]):=by
  intro r
  rw[bd_some]
  by_cases h:r.2=0
  ·rw[if_pos h]
   exact cf (by show neI r.2 0=false;simpa using h) (bdS htell rfl)
  ·rw[if_neg h]
   exact ct (by show neI r.2 0=true;simpa using h) rfl
 by_cases h1:o.kind=1
 ·refine ct (by simpa using h1) (cf (by simp[h1]) (cf (by simp[h1]) ?_))
  have hR:deedF f o floor=appendF f o.text:=by unfold deedF;simp[h1]
  rw[hR,show F253.s FUEL f.enc (o.enc.at 2).s=_ from append_spec f o.text (by omega) (by omega)]
  exact fin _
 refine cf (by simpa using h1) ?_
 by_cases h4:o.kind=4
 ·refine ct (by simpa using h4) (cf (by simp[h4]) (cf (by simp[h4]) ?_))
  have hR:deedF f o floor=holdF f o.text:=by unfold deedF;simp[h4]
  rw[hR,show F218.s FUEL f.enc (o.enc.at 2).s=_ from hold_spec f o.text (by omega) (by have:=hf.hold;omega) (fun x hx=>by have:=hf.hsz x hx;omega) hf.nil]
  exact fin _
 refine cf (by simpa using h4) ?_
 by_cases h5:o.kind=5
 ·refine ct (by simpa using h5) (cf (by simp[h5]) (cf (by simp[h5]) ?_))
  have hR:deedF f o floor=releaseF f o.text:=by unfold deedF;simp[h5]
  rw[hR,show F220.s FUEL f.enc (o.enc.at 2).s=_ from release_spec f o.text (by have:=hf.hold;omega) hf.nil]
  exact fin _
 refine cf (by simpa using h5) ?_
 by_cases h2:o.kind=2
 ·refine ct (by simpa using h2) (cf (by simp[h2]) (cf (by simp[h2]) ?_))
  have hR:deedF f o floor=sealF f o.time:=by unfold deedF;simp[h2]
  rw[hR,show F213.s FUEL f.enc (o.enc.at 3).i=_ from seal_spec f o.time]
  exact fin _
 refine cf (by simpa using h2) ?_
 by_cases h3:o.kind=3
 ·refine ct (by simpa using h3) (cf (by simp[h3]) (cf (by simp[h3]) ?_))
  have hR:deedF f o floor=extendF f o.time:=by unfold deedF;simp[h3]
  rw[hR,show F216.s FUEL f.enc (o.enc.at 3).i=_ from extend_spec f o.time]
  exact fin _
 refine cf (by simpa using h3) ?_
 by_cases h6:o.kind=6
 ·refine ct (by simpa using h6) (cf (by simp[h6]) (ct (by simpa using h6) ?_))
  have hR:deedF f o floor=(zeroF,mayN f floor):=by unfold deedF;simp[h6]
  rw[hR]
  refine bdS (may_spec f floor) ?_
  by_cases h:mayN f floor=0
  ·rw[if_pos h]
   exact cf (by show neI (mayN f floor) 0=false;simpa using h) (bdS htell rfl)
  ·rw[if_neg h]
   exact ct (by show neI (mayN f floor) 0=true;simpa using h) rfl
 refine cf (by simpa using h6) ?_
 by_cases h0:o.kind=0
 ·have hR:deedF f o floor=(f,4):=by unfold deedF;simp[h0]
  rw[hR]
  exact ct (by simpa using h0) rfl
 ·have hR:deedF f o floor=(f,1):=by unfold deedF;simp[h0,h1,h2,h3,h4,h5,h6]
  rw[hR]
  exact cf (by simpa using h0) rfl
end Go.AM.SY
namespace Go.AM.SY
open Go Go.AM
namespace F30
def createS (M:Nat) (p0 p1:D):Option D:=
 (bd (F164.s FUEL (p1.at 1).s) fun r3=>(cond (!r3.b) (bd (F77.s FUEL 2) fun r4=>(some (D.tup [p0,r4,(dl false [])]))) (bd (F31.s FUEL p0 (p1.at 1).s) fun r5=>(cond (geI r5.i 0) (bd (F77.s FUEL 4) fun r6=>(some (D.tup [p0,r6,(dl false [])]))) (cond (geI (nI (p0.at 0).elems.length) 12) (bd (F77.s FUEL 10) fun r7=>(some (D.tup [p0,r7,(dl false [])]))) (cond (geI (p0.at 1).i 1099511627776) (bd (F77.s FUEL 10) fun r8=>(some (D.tup [p0,r8,(dl false [])]))) (bd (F174.s FUEL (ad .i64 (p0.at 1).i 1) (p1.at 1).s) fun r9=>(cond (neI (r9.at 1).i 0) (bd (F77.s FUEL (r9.at 1).i) fun r10=>(some (D.tup [p0,r10,(dl false [])]))) (bd (F175.s FUEL (p0.at 0)) fun r11=>(cond (mx (r11.elems.length+1)) (some (D.tup [(da [(dl (r11.nn||true) (((ap ((r11.elems.drop 0).take r11.elems.length) [(r9.at 0)]).drop 0).take (r11.elems.length+1))),((r9.at 0).at 0),(p0.at 2)]),(da [(di 0),((r9.at 0).at 0),(dS (bs [])),(da [(di 0),(dS (bs [])),(dS (bs [])),(db false),(di 0),(dl false [])]),(dl false [])]),(dl true [(da [(di 0),((r9.at 0).at 0),((r9.at 0).at 1),(di 0),(di 0),(da (rp 32 (D.int .u8 0)))])])])) none))))))))))
def changeS (M:Nat) (p0 p1:D):Option D:=
 (bd (F31.s FUEL p0 (p1.at 1).s) fun r12=>(cond (ltI r12.i 0) (bd (F77.s FUEL 3) fun r13=>(some (D.tup [p0,r13,(dl false [])]))) (cond (inb r12.i (p0.at 0).elems.length) (bd (F176.s FUEL (ix (p0.at 0).elems (r12.i).toNat) p1 (p0.at 2).i) fun r14=>(cond (neI (r14.at 2).i 0) (bd (F77.s FUEL (r14.at 2).i) fun r15=>(some (D.tup [p0,r15,(dl false [])]))) (bd (F175.s FUEL (p0.at 0)) fun r16=>(cond (eqI (p1.at 0).i 6) (cond ((leI 0 r12.i)&&(leI r12.i (ad .i64 r12.i 1))&&(leI (ad .i64 r12.i 1) (nI r16.elems.length))&&(leI (nI r16.elems.length) (nI r16.elems.length))&&(eqN (0+r16.elems.length) r16.elems.length)) (cond (eqI r12.i (ad .i64 r12.i 1)) (some (D.tup [(da [(dl r16.nn ((r16.elems.drop 0).take r16.elems.length)),(p0.at 1),(p0.at 2)]),(da [(di 0),((r14.at 1).at 1),(dS (bs [])),(da [(di 0),(dS (bs [])),(dS (bs [])),(db false),(di 0),(dl false [])]),(dl false [])]),(dl true [(r14.at 1)])])) (cond (true&&(leI 0 r12.i)&&(leN (0+(r12.i).toNat) r16.elems.length)) (cond ((leI 0 (ad .i64 r12.i 1))&&(leI (ad .i64 r12.i 1) (nI r16.elems.length))&&(leN (0+r16.elems.length) r16.elems.length)) (cond (leN ((0+((r12.i).toNat-0))+((r16.elems.drop (0+(ad .i64 r12.i 1).toNat)).take (r16.elems.length-(ad .i64 r12.i 1).toNat)).length) r16.elems.length) (cond ((leI 0 (nI (((r12.i).toNat-0)+((r16.elems.drop (0+(ad .i64 r12.i 1).toNat)).take (r16.elems.length-(ad .i64 r12.i 1).toNat)).length)))&&(leI (nI (((r12.i).toNat-0)+((r16.elems.drop (0+(ad .i64 r12.i 1).toNat)).take (r16.elems.length-(ad .i64 r12.i 1).toNat)).length)) (nI r16.elems.length))&&(leN (0+r16.elems.length) (ap (ap (r16.elems.take (0+((r12.i).toNat-0))) ((r16.elems.drop (0+(ad .i64 r12.i 1).toNat)).take (r16.elems.length-(ad .i64 r12.i 1).toNat))) (r16.elems.drop ((0+((r12.i).toNat-0))+((r16.elems.drop (0+(ad .i64 r12.i 1).toNat)).take (r16.elems.length-(ad .i64 r12.i 1).toNat)).length))).length)) (some (D.tup [(da [(dl r16.nn (((ap (ap ((ap (ap (r16.elems.take (0+((r12.i).toNat-0))) ((r16.elems.drop (0+(ad .i64 r12.i 1).toNat)).take (r16.elems.length-(ad .i64 r12.i 1).toNat))) (r16.elems.drop ((0+((r12.i).toNat-0))+((r16.elems.drop (0+(ad .i64 r12.i 1).toNat)).take (r16.elems.length-(ad .i64 r12.i 1).toNat)).length))).take (0+(((r12.i).toNat-0)+((r16.elems.drop (0+(ad .i64 r12.i 1).toNat)).take (r16.elems.length-(ad .i64 r12.i 1).toNat)).length))) (rp (r16.elems.length-(((r12.i).toNat-0)+((r16.elems.drop (0+(ad .i64 r12.i 1).toNat)).take (r16.elems.length-(ad .i64 r12.i 1).toNat)).length)) (da [(di 0),(dS (bs [])),(dS (bs [])),(db false),(di 0),(dl false [])]))) ((ap (ap (r16.elems.take (0+((r12.i).toNat-0))) ((r16.elems.drop (0+(ad .i64 r12.i 1).toNat)).take (r16.elems.length-(ad .i64 r12.i 1).toNat))) (r16.elems.drop ((0+((r12.i).toNat-0))+((r16.elems.drop (0+(ad .i64 r12.i 1).toNat)).take (r16.elems.length-(ad .i64 r12.i 1).toNat)).length))).drop ((0+(((r12.i).toNat-0)+((r16.elems.drop (0+(ad .i64 r12.i 1).toNat)).take (r16.elems.length-(ad .i64 r12.i 1).toNat)).length))+(r16.elems.length-(((r12.i).toNat-0)+((r16.elems.drop (0+(ad .i64 r12.i 1).toNat)).take (r16.elems.length-(ad .i64 r12.i 1).toNat)).length))))).drop 0).take (((r12.i).toNat-0)+((r16.elems.drop (0+(ad .i64 r12.i 1).toNat)).take (r16.elems.length-(ad .i64 r12.i 1).toNat)).length))),(p0.at 1),(p0.at 2)]),(da [(di 0),((r14.at 1).at 1),(dS (bs [])),(da [(di 0),(dS (bs [])),(dS (bs [])),(db false),(di 0),(dl false [])]),(dl false [])]),(dl true [(r14.at 1)])])) none) none) none) none)) none) (cond (inb r12.i r16.elems.length) (some (D.tup [(da [(dl r16.nn (((r16.elems.set (0+(r12.i).toNat) (r14.at 0)).drop 0).take r16.elems.length)),(p0.at 1),(p0.at 2)]),(da [(di 0),(di (nI ((r14.at 0).at 2).s.size)),(dS (bs [])),(da [(di 0),(dS (bs [])),(dS (bs [])),(db false),(di 0),(dl false [])]),(dl false [])]),(dl true [(r14.at 1)])])) none))))) none)))
def sweepS (M:Nat) (p0 p1:D):Option D:=
 (bd (F179.s FUEL (p0.at 0) (p0.at 2).i) fun r43=>(goS (st126_3 M) M ⟨0,r43.elems.length,0,r43.elems.length,(nI r43.elems.length),0,p0,p1,false,[],0,0,0,0,(bs []),0,(bs []),(bs []),false,0,false,[],false,[],p0,p1,0,0,0,0,(bs []),0,(bs []),(bs []),false,0,false,[],false,[],r43.nn,r43.elems,false,[]⟩ fun x=>match x with | .e0 n44 n45 n46 n47 i48 i49 d50 d51 b52 l53 i54 i55 i56 i57 s58 i59 s60 s61 b62 i63 b64 l65 b66 l67 d68 d69 n70 n71 i72 i73 s74 i75 s76 s77 b78 i79 b80 l81 b82 l83 b84 l85 b86 l87=>(bd (F175.s FUEL (d68.at 0)) fun r88=>(goS (st78_2 M) M ⟨0,r88.elems.length,(nI r88.elems.length),0,d50,d51,b52,l53,i54,i55,i56,i57,s58,i59,s60,s61,b62,i63,b64,l65,b66,l67,d68,d69,n70,n71,i72,i73,s74,i75,s76,s77,b78,i79,b80,l81,b82,l83,b84,l85,b86,l87,r88.nn,r88.elems⟩ fun x=>match x with | .e0 n89 n90 i91 i92 d93 d94 b95 l96 i97 i98 i99 i100 s101 i102 s103 s104 b105 i106 b107 l108 b109 l110 d111 d112 n113 n114 i115 i116 s117 i118 s119 s120 b121 i122 b123 l124 b125 l126 b127 l128 b129 l130 b131 l132 r133=>(cond (eqI i92 (-1)) (some (D.tup [(da [(dl b131 ((l132.drop 0).take r88.elems.length)),(d111.at 1),(d111.at 2)]),(da [(di 0),(di (nI n45)),(dS (bs [])),(da [(di 0),(dS (bs [])),(dS (bs [])),(db false),(di 0),(dl false [])]),(dl false [])]),(dl b129 ((l130.drop n113).take n114))])) (goS (st180_5 M) M ⟨0,r88.elems.length,i92,(ad .i64 i92 1),d93,d94,b95,l96,i97,i98,i99,i100,s101,i102,s103,s104,b105,i106,b107,l108,b109,l110,d111,d112,n113,n114,i115,i116,s117,i118,s119,s120,b121,i122,b123,l124,b125,l126,b127,l128,b129,l130,b131,l132,(ix l132 (n89+i92.toNat))⟩ fun x=>match x with | .e0 n134 n135 i136 i137 d138 d139 b140 l141 i142 i143 i144 i145 s146 i147 s148 s149 b150 i151 b152 l153 b154 l155 d156 d157 n158 n159 i160 i161 s162 i163 s164 s165 b166 i167 b168 l169 b170 l171 b172 l173 b174 l175 b176 l177 d178=>(cond ((leI 0 i136)&&(leI i136 (nI n135))&&(leN (n134+n135) l177.length)) (cond (true&&(leI 0 i136)&&(leN (n134+i136.toNat) (ap (ap (l177.take (n134+i136.toNat)) (rp (n135-i136.toNat) (da [(di 0),(dS (bs [])),(dS (bs [])),(db false),(di 0),(dl false [])]))) (l177.drop ((n134+i136.toNat)+(n135-i136.toNat)))).length)) (some (D.tup [(da [(dl b176 (((ap (ap (l177.take (n134+i136.toNat)) (rp (n135-i136.toNat) (da [(di 0),(dS (bs [])),(dS (bs [])),(db false),(di 0),(dl false [])]))) (l177.drop ((n134+i136.toNat)+(n135-i136.toNat)))).drop (n134+0)).take (i136.toNat-0))),(d156.at 1),(d156.at 2)]),(da [(di 0),(di (nI n45)),(dS (bs [])),(da [(di 0),(dS (bs [])),(dS (bs [])),(db false),(di 0),(dl false [])]),(dl false [])]),(dl b174 ((l175.drop n158).take n159))])) none) none))) | .e1 n89 n90 i91 i92 d93 d94 b95 l96 i97 i98 i99 i100 s101 i102 s103 s104 b105 i106 b107 l108 b109 l110 d111 d112 n113 n114 i115 i116 s117 i118 s119 s120 b121 i122 b123 l124 b125 l126 b127 l128 b129 l130 b131 l132=>(some (D.tup [(da [(dl b131 ((l132.drop 0).take r88.elems.length)),(d111.at 1),(d111.at 2)]),(da [(di 0),(di (nI n45)),(dS (bs [])),(da [(di 0),(dS (bs [])),(dS (bs [])),(db false),(di 0),(dl false [])]),(dl false [])]),(dl b129 ((l130.drop n113).take n114))]))))))
def listS (M:Nat) (p0 p1:D):Option D:=
 (goS (st129_3 M) M ⟨0,0,(p0.at 0),(nI (p0.at 0).elems.length),0,p0,p1,false,[],0,0,0,0,(bs []),0,(bs []),(bs []),false,0,false,[],false,[],p0,p1,false,[],0,0,(bs []),0,(bs []),(bs []),false,0,false,[],false,[],false,[]⟩ fun x=>match x with | .e0 n186 n187 d188 i189 i190 d191 d192 b193 l194 i195 i196 i197 i198 s199 i200 s201 s202 b203 i204 b205 l206 b207 l208 d209 d210 b211 l212 i213 i214 s215 i216 s217 s218 b219 i220 b221 l222 b223 l224 b225 l226=>(goS (st231_2 M) M ⟨n186,n187,(nI n187),20,0,20,d191,d192,b193,l194,i195,i196,i197,i198,s199,i200,s201,s202,b203,i204,b205,l206,b207,l208,d209,d210,b211,l212,i213,i214,s215,i216,s217,s218,b219,i220,b221,l222,b223,l224,b225,l226⟩ fun x=>match x with | .e0 n227 n228 i229 i230 i231 i232 d233 d234 b235 l236 i237 i238 i239 i240 s241 i242 s243 s244 b245 i246 b247 l248 b249 l250 d251 d252 b253 l254 i255 i256 s257 i258 s259 s260 b261 i262 b263 l264 b265 l266 b267 l268=>(goS (st255_1 M) M ⟨n227,n228,i231,i229,(ad .i64 i231 1),d233,d234,b235,l236,i237,i238,i239,i240,s241,i242,s243,s244,b245,i246,b247,l248,b249,l250,d251,d252,b253,l254,i255,i256,s257,i258,s259,s260,b261,i262,b263,l264,b265,l266,b267,l268⟩ fun x=>match x with | .e0 n269 n270 i271 i272 i273 d274 d275 b276 l277 i278 i279 i280 i281 s282 i283 s284 s285 b286 i287 b288 l289 b290 l291 d292 d293 b294 l295 i296 i297 s298 i299 s300 s301 b302 i303 b304 l305 b306 l307 b308 l309=>(goS (st231_7 M) M ⟨n227,n228,i229,i230,d274,d275,b276,l277,i278,i279,i280,i281,s282,i283,s284,s285,b286,i287,b288,l289,b290,l291,d292,d293,b294,l295,i296,i297,s298,i299,s300,s301,b302,i303,b304,l305,b306,l307,b308,l309⟩ fun x=>match x with | .e0 n353 n354 i355 i356 d357 d358 b359 l360 i361 i362 i363 i364 s365 i366 s367 s368 b369 i370 b371 l372 b373 l374 d375 d376 b377 l378 i379 i380 s381 i382 s383 s384 b385 i386 b387 l388 b389 l390 b391 l392=>(some (D.tup [d375,(da [(di 0),(di 0),(dS (bs [])),(da [(di 0),(dS (bs [])),(dS (bs [])),(db false),(di 0),(dl false [])]),(dl b391 ((l392.drop n186).take n187))]),(dl b377 l378)]))))))
end F30
end Go.AM.SY
namespace Go.AM.SY
open Go Go.AM
def Res.enc (r:Res):D:=.tup [r.st.enc,r.an.enc,dl r.nn (r.evs.map Ev.enc)]
theorem stay_enc (s:St) (e:Int):(bd (F77.s FUEL e) fun r=>some (D.tup [s.enc,r,dl false []]))=some (stay s e).enc:=by
 rw[wrong_spec,bd_some];rfl
theorem change_spec (s:St) (o:Mo) (hs:StOk s) (ho:MoOk o):F30.changeS FUEL s.enc o.enc=some (changeM shaL s o).enc:=by
 have hl:=hs.len
 unfold F30.changeS changeM
 have hn:(o.enc.at 1).s=o.name:=rfl
 have h0:s.enc.at 0=dl s.nn (s.files.map Fl.enc):=rfl
 have hfl:(s.enc.at 2).i=s.floor:=rfl
 rw[hn,h0,hfl]
 refine bdS (find_specM s o.name (by omega)) ?_
 cases hx:findM s o.name with
 | none=>
  dsimp only
  rw[findI_none hx]
  exact ct (by simp) (stay_enc s 3)
 | some i=>
  obtain⟨hi,hnm⟩:=findM_is hx
  dsimp only
  rw[List.getElem?_eq_getElem hi,findI_some hx]
  dsimp only
  have hf:=hs.files _ (List.getElem_mem hi)
  have hie:ix (s.files.map Fl.enc) ((di (i:Int)).i).toNat=s.files[i].enc:=by simp[ix_map hi]
  refine cf (by simp) (ct (by simp;omega) ?_)
  simp only[elems_slice,hie]
  refine bdS (fileDo_spec s.files[i] o s.floor s.last hf ho) ?_
  generalize hR:fileDo shaL s.files[i] o s.floor=R
  by_cases h1:R.2.2=0
  ·rw[if_pos h1]
   refine cf (by show neI R.2.2 0=false;simpa using h1) (bdS (clone_files s.nn _ (fun h=>by rw[hs.nil h];rfl) (by simp;omega)) ?_)
   by_cases h6:o.kind=6
   ·rw[if_pos h6]
    refine ct (by show eqI o.kind 6=true;simpa using h6) ?_
    have had:ad .i64 (i:Int) 1=((i+1:Nat):Int):=by rw[ad64 (by omega) (by omega)];rfl
    simp only[i_int,elems_slice,nn_slice,had,Int.toNat_natCast,Nat.sub_zero,Nat.zero_add,List.length_map]
    refine ct ?_ (cf (by simp;omega) (ct ?_ (ct ?_ (ct ?_ (ct ?_ ?_)))))
    ·simp;omega
    ·simp;omega
    ·simp;omega
    ·simp;omega
    ·simp[ap];omega
    ·rw[del_row (i:=i) (by simpa using hi) rfl (by rw[List.take_of_length_le];simp) rfl rfl,eraseIdx_map]
     rfl
   ·rw[if_neg h6]
    refine cf (by show eqI o.kind 6=false;simpa using h6) (ct (by simp;omega) ?_)
    have e1:(((s.files.map Fl.enc).set (0+((di (i:Int)).i).toNat) R.1.enc).drop 0).take (s.files.map Fl.enc).length=(s.files.set i R.1).map Fl.enc:=by
     have:0+((di (i:Int)).i).toNat=i:=by simp
     rw[this]
     exact row_set (by simp)
    exact congrArg (fun l=>some (D.tup [da [dl s.nn l,di s.last,di s.floor],(An.enc ⟨0,(R.1.data.size:Int),bs [],zeroF,false,[]⟩),dl true [R.2.1.enc]])) e1
  ·rw[if_neg h1]
   exact ct (by show neI R.2.2 0=true;simpa using h1) (stay_enc s R.2.2)
end Go.AM.SY
namespace Go.AM.SY
open Go Go.AM
def x126_3e0 (s:F30.S126_3):F30.X126_3:=.e0 s.n44 s.n45 s.n46 s.n47 s.i48 s.i49 s.d50 s.d51 s.b52 s.l53 s.i54 s.i55 s.i56 s.i57 s.s58 s.i59 s.s60 s.s61 s.b62 s.i63 s.b64 s.l65 s.b66 s.l67 s.d68 s.d69 s.n70 s.n71 s.i72 s.i73 s.s74 s.i75 s.s76 s.s77 s.b78 s.i79 s.b80 s.l81 s.b82 s.l83 s.b84 s.l85 s.b86 s.l87
def x78_2e0 (s:F30.S78_2) (r133:D):F30.X78_2:=.e0 s.n89 s.n90 s.i91 s.i92 s.d93 s.d94 s.b95 s.l96 s.i97 s.i98 s.i99 s.i100 s.s101 s.i102 s.s103 s.s104 s.b105 s.i106 s.b107 s.l108 s.b109 s.l110 s.d111 s.d112 s.n113 s.n114 s.i115 s.i116 s.s117 s.i118 s.s119 s.s120 s.b121 s.i122 s.b123 s.l124 s.b125 s.l126 s.b127 s.l128 s.b129 s.l130 s.b131 s.l132 r133
def x78_2e1 (s:F30.S78_2):F30.X78_2:=.e1 s.n89 s.n90 s.i91 s.i92 s.d93 s.d94 s.b95 s.l96 s.i97 s.i98 s.i99 s.i100 s.s101 s.i102 s.s103 s.s104 s.b105 s.i106 s.b107 s.l108 s.b109 s.l110 s.d111 s.d112 s.n113 s.n114 s.i115 s.i116 s.s117 s.i118 s.s119 s.s120 s.b121 s.i122 s.b123 s.l124 s.b125 s.l126 s.b127 s.l128 s.b129 s.l130 s.b131 s.l132
def x180_5e0 (s:F30.S180_5):F30.X180_5:=.e0 s.n134 s.n135 s.i136 s.i137 s.d138 s.d139 s.b140 s.l141 s.i142 s.i143 s.i144 s.i145 s.s146 s.i147 s.s148 s.s149 s.b150 s.i151 s.b152 s.l153 s.b154 s.l155 s.d156 s.d157 s.n158 s.n159 s.i160 s.i161 s.s162 s.i163 s.s164 s.s165 s.b166 s.i167 s.b168 s.l169 s.b170 s.l171 s.b172 s.l173 s.b174 s.l175 s.b176 s.l177 s.d178
def x129_3e0 (s:F30.S129_3):F30.X129_3:=.e0 s.n186 s.n187 s.d188 s.i189 s.i190 s.d191 s.d192 s.b193 s.l194 s.i195 s.i196 s.i197 s.i198 s.s199 s.i200 s.s201 s.s202 s.b203 s.i204 s.b205 s.l206 s.b207 s.l208 s.d209 s.d210 s.b211 s.l212 s.i213 s.i214 s.s215 s.i216 s.s217 s.s218 s.b219 s.i220 s.b221 s.l222 s.b223 s.l224 s.b225 s.l226
def x231_2e0 (s:F30.S231_2):F30.X231_2:=.e0 s.n227 s.n228 s.i229 s.i230 s.i231 s.i232 s.d233 s.d234 s.b235 s.l236 s.i237 s.i238 s.i239 s.i240 s.s241 s.i242 s.s243 s.s244 s.b245 s.i246 s.b247 s.l248 s.b249 s.l250 s.d251 s.d252 s.b253 s.l254 s.i255 s.i256 s.s257 s.i258 s.s259 s.s260 s.b261 s.i262 s.b263 s.l264 s.b265 s.l266 s.b267 s.l268
def x255_1e0 (s:F30.S255_1):F30.X255_1:=.e0 s.n269 s.n270 s.i271 s.i272 s.i273 s.d274 s.d275 s.b276 s.l277 s.i278 s.i279 s.i280 s.i281 s.s282 s.i283 s.s284 s.s285 s.b286 s.i287 s.b288 s.l289 s.b290 s.l291 s.d292 s.d293 s.b294 s.l295 s.i296 s.i297 s.s298 s.i299 s.s300 s.s301 s.b302 s.i303 s.b304 s.l305 s.b306 s.l307 s.b308 s.l309
def x255_4e0 (s:F30.S255_4) (r352:D):F30.X255_4:=.e0 s.n310 s.n311 s.i312 s.i313 s.i314 s.i315 s.d316 s.d317 s.b318 s.l319 s.i320 s.i321 s.i322 s.i323 s.s324 s.i325 s.s326 s.s327 s.b328 s.i329 s.b330 s.l331 s.b332 s.l333 s.d334 s.d335 s.b336 s.l337 s.i338 s.i339 s.s340 s.i341 s.s342 s.s343 s.b344 s.i345 s.b346 s.l347 s.b348 s.l349 s.b350 s.l351 r352
def x255_4e1 (s:F30.S255_4):F30.X255_4:=.e1 s.n310 s.n311 s.i312 s.i313 s.i314 s.i315 s.d316 s.d317 s.b318 s.l319 s.i320 s.i321 s.i322 s.i323 s.s324 s.i325 s.s326 s.s327 s.b328 s.i329 s.b330 s.l331 s.b332 s.l333 s.d334 s.d335 s.b336 s.l337 s.i338 s.i339 s.s340 s.i341 s.s342 s.s343 s.b344 s.i345 s.b346 s.l347 s.b348 s.l349 s.b350 s.l351
def x231_7e0 (s:F30.S231_7):F30.X231_7:=.e0 s.n353 s.n354 s.i355 s.i356 s.d357 s.d358 s.b359 s.l360 s.i361 s.i362 s.i363 s.i364 s.s365 s.i366 s.s367 s.s368 s.b369 s.i370 s.b371 s.l372 s.b373 s.l374 s.d375 s.d376 s.b377 s.l378 s.i379 s.i380 s.s381 s.i382 s.s383 s.s384 s.b385 s.i386 s.b387 s.l388 s.b389 s.l390 s.b391 s.l392
theorem due_spec (nn:Bool) (l:List Fl) (floor:Int) (hl:l.length≤1048576):F179.s FUEL (dl nn (l.map Fl.enc)) floor=some (dl (!(dueL l floor).isEmpty) ((dueL l floor).map di)):=by
 unfold F179.s
 refine goS_rule (fun t:F179.S254_1=>∃k:Nat,t=⟨dl nn (l.map Fl.enc),nI l.length,(k:Int),0,(dueL (l.take k) floor).length,dl nn (l.map Fl.enc),floor,!(dueL (l.take k) floor).isEmpty,(dueL (l.take k) floor).map di⟩∧k≤l.length) (fun t=>l.length-t.i3.toNat) (fun o=>o=some (dl (!(dueL l floor).isEmpty) ((dueL l floor).map di))) ?_ _ _ ⟨0,by simp[dueL],by omega⟩ (by simp[FUEL];omega)
 rintro _ rec ⟨k,rfl,hk⟩ hrec
 have hdl:(dueL (l.take k) floor).length≤k:=by
  unfold dueL
  rw[List.length_map]
  exact Nat.le_trans (List.length_filter_le _ _) (by simp;omega)
 simp only[F179.st254_1]
 by_cases h1:k<l.length
 ·have hadd:ad .i64 (k:Int) 1=((k+1:Nat):Int):=by rw[ad64 (by omega) (by omega)];rfl
  have htk:l.take (k+1)=l.take k++[l[k]]:=by rw[List.take_succ_eq_append_getElem h1]
  refine ct (by simp;omega) (ct (by simp;omega) ?_)
  simp only[elems_slice,Int.toNat_natCast,ix_map h1]
  refine bdS (may_spec l[k] floor) ?_
  by_cases h2:mayN l[k] floor=0
  ·have hd:dueL (l.take (k+1)) floor=dueL (l.take k) floor++[l[k].id]:=by
    unfold dueL;rw[htk,List.filter_append,List.map_append];congr 1;simp[h2]
   refine ct (by show eqI (mayN l[k] floor) 0=true;simpa using h2) (ct (by simp;omega) ?_)
   rw[hadd]
   refine hrec _ ⟨k+1,?_,by omega⟩ (by dsimp only;omega)
   rw[hd,F179.S254_1.mk.injEq]
   refine⟨rfl,rfl,rfl,rfl,by simp,rfl,rfl,by simp,?_⟩
   rw[List.map_append,ap,List.drop_zero,List.take_of_length_le (by simp)]
   rfl
  ·have hd:dueL (l.take (k+1)) floor=dueL (l.take k) floor:=by
    unfold dueL;rw[htk,List.filter_append];simp[h2]
   refine cf (by show eqI (mayN l[k] floor) 0=false;simpa using h2) ?_
   rw[hadd]
   refine hrec _ ⟨k+1,?_,by omega⟩ (by dsimp only;omega)
   rw[hd]
 ·refine cf (by simp;omega) ?_
  have:l.take k=l:=List.take_of_length_le (by omega)
  rw[this]
  exact ct (by simp) rfl
theorem loop70 (ids:List Int) (hl:ids.length≤1048576) (s0:F30.S126_3) (h46:s0.n46=0) (h47:s0.n47=ids.length) (h48:s0.i48=(ids.length:Int)) (h85:s0.l85=ids.map di) (h49:s0.i49=0) (h70:s0.n70=0) (h71:s0.n71=0) (h86:s0.b86=false) (h87:s0.l87=[])
  (K:F30.X126_3→Option D) (R:Option D) (hK:K (x126_3e0 { s0 with i49:=(ids.length:Int),n71:=ids.length,b86:=!ids.isEmpty,l87:=(ids.map delEv).map Ev.enc })=R):goS (F30.st126_3 FUEL) FUEL s0 K=R:=by
 refine goS_rule (fun t:F30.S126_3=>∃k:Nat,t = { s0 with i49:=(k:Int),n71:=k,b86:=!(ids.take k).isEmpty,l87:=((ids.take k).map delEv).map Ev.enc }∧k≤ids.length) (fun t=>ids.length-t.i49.toNat) (fun o=>o=R) ?_ _ _ ⟨0,?_,by omega⟩ (by rw[h49];simp[FUEL];omega)
 ·rintro _ rec ⟨k,rfl,hk⟩ hrec
  simp only[F30.st126_3,h46,h47,h48,h85,h70]
  by_cases h1:k<ids.length
  ·have hadd:ad .i64 (k:Int) 1=((k+1:Nat):Int):=by rw[ad64 (by omega) (by omega)];rfl
   have htk:ids.take (k+1)=ids.take k++[ids[k]]:=by rw[List.take_succ_eq_append_getElem h1]
   refine ct (by simp;omega) (ct (by simp;omega) (ct (by simp;omega) ?_))
   rw[hadd]
   refine hrec _ ⟨k+1,?_,by omega⟩ ?_
   rotate_left
   ·simp;omega
   rw[F30.S126_3.mk.injEq]
   simp only[h46,h47,h48,h85,h70,true_and,and_true]
   refine⟨?_,?_⟩
   ·rw[htk];cases ids.take k<;>rfl
   ·rw[htk]
    simp only[List.map_append,List.map_cons,List.map_nil,ap,List.drop_zero]
    rw[List.take_of_length_le (by simp;omega)]
    congr 1
    have e:ix (ids.map di) (0+(Int.toNat (k:Int)))=di ids[k]:=by rw[ix_map (by simpa using h1)];simp
    rw[e]
    rfl
  ·have hkk:k=ids.length:=by omega
   refine cf (by simp;omega) ?_
   subst hkk
   rw[List.take_length]
   unfold x126_3e0 at hK
   simp only[h46,h47,h48,h85,h70] at hK ⊢
   exact hK
 ·cases s0
  simp only at h49 h71 h86 h87
  subst h49 h71 h86 h87
  simp
def dueB (floor:Int) (f:Fl):Bool:=decide (mayN f floor=0)
theorem loop38 (fs:List Fl) (floor:Int) (hl:fs.length≤1048576) (s0:F30.S78_2) (h89:s0.n89=0) (h90:s0.n90=fs.length) (h91:s0.i91=(fs.length:Int)) (h92:s0.i92=0) (h132:s0.l132=fs.map Fl.enc) (h111:(s0.d111.at 2).i=floor)
  (K:F30.X78_2→Option D) (R:Option D) (hK0:∀i,fs.findIdx? (dueB floor)=some i→K (x78_2e0 { s0 with i92:=(i:Int) } (di 0))=R) (hK1:fs.findIdx? (dueB floor)=none→K (x78_2e1 { s0 with i92:=(fs.length:Int) })=R):goS (F30.st78_2 FUEL) FUEL s0 K=R:=by
 refine goS_rule (fun t:F30.S78_2=>∃k:Nat,t = { s0 with i92:=(k:Int) }∧k≤fs.length∧∀i (h:i<fs.length),i<k→dueB floor fs[i]=false) (fun t=>fs.length-t.i92.toNat) (fun o=>o=R) ?_ _ _ ⟨0,by cases s0;simp only at h92;subst h92;rfl,by omega,by omega⟩ (by rw[h92];simp[FUEL];omega)
 rintro _ rec ⟨k,rfl,hk,hlt⟩ hrec
 simp only[F30.st78_2,h89,h90,h91,h132,h111]
 by_cases h1:k<fs.length
 ·have hadd:ad .i64 (k:Int) 1=((k+1:Nat):Int):=by rw[ad64 (by omega) (by omega)];rfl
  have e:ix (fs.map Fl.enc) (0+(Int.toNat (k:Int)))=fs[k].enc:=by rw[Nat.zero_add,Int.toNat_natCast,ix_map h1]
  refine ct (by simp;omega) (ct (by simp;omega) ?_)
  rw[e]
  refine bdS (may_spec fs[k] floor) ?_
  by_cases h2:mayN fs[k] floor=0
  ·refine ct (by show eqI (mayN fs[k] floor) 0=true;simpa using h2) ?_
   have:=hK0 k (findIdx_some_of h1 hlt (by simpa[dueB] using h2))
   unfold x78_2e0 at this
   simp only[h89,h90,h91,h132,h2] at this ⊢
   exact this
  ·refine cf (by show eqI (mayN fs[k] floor) 0=false;simpa using h2) ?_
   rw[hadd]
   refine hrec _ ⟨k+1,?_,by omega,?_⟩ ?_
   rotate_right
   ·simp;omega
   ·simp only[h89,h90,h91,h132]
   ·intro i hi hik
    by_cases hik':i=k
    ·subst hik';simpa[dueB] using h2
    ·exact hlt i hi (by omega)
 ·have hkk:k=fs.length:=by omega
  refine cf (by simp;omega) ?_
  subst hkk
  have:=hK1 (findIdx_none_of (fun i hi=>hlt i hi (by omega)))
  unfold x78_2e1 at this
  simp only[h89,h90,h91,h132] at this ⊢
  exact this
def keptL (floor:Int) (l:List Fl):List Fl:=l.filter fun f=>!dueB floor f
theorem loop96 (fs:List Fl) (floor:Int) (hl:fs.length≤1048576) (s0:F30.S180_5) (i:Nat) (hi:i<fs.length) (h134:s0.n134=0) (h135:s0.n135=fs.length) (h136:s0.i136=(i:Int)) (h137:s0.i137=((i+1:Nat):Int)) (h177:s0.l177=fs.map Fl.enc) (h156:(s0.d156.at 2).i=floor)
  (hfirst:∀j (h:j<fs.length),j<i→dueB floor fs[j]=false) (hdue:dueB floor fs[i]=true)
  (K:F30.X180_5→Option D) (R:Option D) (hK:∀L:List D,L.length=fs.length→L.take (keptL floor fs).length=(keptL floor fs).map Fl.enc→K (x180_5e0 { s0 with i136:=((keptL floor fs).length:Int),i137:=(fs.length:Int),l177:=L })=R):goS (F30.st180_5 FUEL) FUEL s0 K=R:=by
 have htake0:keptL floor (fs.take (i+1))=fs.take i:=by
  rw[List.take_succ_eq_append_getElem hi]
  unfold keptL
  rw[List.filter_append,List.filter_eq_self.2,List.filter_cons,if_neg (by simp[hdue])]
  ·simp
  ·intro f hf
   obtain⟨j,hj,rfl⟩:=List.getElem_of_mem hf
   simp only[List.length_take] at hj
   have:=hfirst j (by omega) (by omega)
   simp[this]
 refine goS_rule (fun t:F30.S180_5=>∃(k:Nat) (L:List D),t = { s0 with i136:=((keptL floor (fs.take k)).length:Int),i137:=(k:Int),l177:=L }∧k≤fs.length∧(keptL floor (fs.take k)).length<k∧L.length=fs.length∧L.take (keptL floor (fs.take k)).length=(keptL floor (fs.take k)).map Fl.enc∧L.drop k=(fs.map Fl.enc).drop k) (fun t=>fs.length-t.i137.toNat) (fun o=>o=R) ?_ _ _ ⟨i+1,fs.map Fl.enc,?_,by omega,?_,by simp,?_,rfl⟩ (by rw[h137];simp[FUEL];omega)
 ·rintro _ rec ⟨k,L,rfl,hk,hw,hL,ht,hd⟩ hrec
  simp only[F30.st180_5,h134,h135,h156]
  by_cases h1:k<fs.length
  ·have hadd:ad .i64 (k:Int) 1=((k+1:Nat):Int):=by rw[ad64 (by omega) (by omega)];rfl
   have hget:L[k]'(by omega)=fs[k].enc:=by
    have:=congrArg (fun l:List D=>l[0]?) hd
    simp only[List.getElem?_drop,Nat.add_zero,List.getElem?_map] at this
    rw[List.getElem?_eq_getElem (by omega),List.getElem?_eq_getElem h1] at this
    simpa using this
   have e:ix L (0+(Int.toNat (k:Int)))=fs[k].enc:=by rw[Nat.zero_add,Int.toNat_natCast,ix_eq (by omega),hget]
   have htk:fs.take (k+1)=fs.take k++[fs[k]]:=by rw[List.take_succ_eq_append_getElem h1]
   have hd':L.drop (k+1)=(fs.map Fl.enc).drop (k+1):=by
    rw[←List.drop_drop,←List.drop_drop,hd]
   refine ct (by simp;omega) (ct (by simp;omega) ?_)
   rw[e]
   refine bdS (may_spec fs[k] floor) ?_
   by_cases h2:mayN fs[k] floor=0
   ·have hkt:keptL floor (fs.take (k+1))=keptL floor (fs.take k):=by
     unfold keptL;rw[htk,List.filter_append];simp[dueB,h2]
    refine cf (by show (!eqI (mayN fs[k] floor) 0)=false;simpa using h2) ?_
    rw[hadd]
    refine hrec _ ⟨k+1,L,?_,by omega,by rw[hkt];omega,hL,by rw[hkt];exact ht,hd'⟩ ?_
    rotate_left
    ·simp;omega
    rw[hkt]
    simp only[h134,h135]
   ·have hkt:keptL floor (fs.take (k+1))=keptL floor (fs.take k)++[fs[k]]:=by
     unfold keptL;rw[htk,List.filter_append];simp[dueB,h2]
    have hadd2:ad .i64 ((keptL floor (fs.take k)).length:Int) 1=(((keptL floor (fs.take k)).length+1:Nat):Int):=by rw[ad64 (by omega) (by omega)];rfl
    refine ct (by show (!eqI (mayN fs[k] floor) 0)=true;simpa using h2) (ct (by simp;omega) ?_)
    rw[hadd,hadd2]
    refine hrec _ ⟨k+1,L.set (keptL floor (fs.take k)).length fs[k].enc,?_,by omega,by rw[hkt];simp;omega,by simpa using hL,?_,?_⟩ ?_
    rotate_right
    ·simp;omega
    ·rw[hkt]
     simp only[h134,h135,List.length_append,List.length_cons,List.length_nil,Nat.zero_add,Int.toNat_natCast]
    ·rw[hkt]
     simp only[List.length_append,List.length_cons,List.length_nil,Nat.zero_add,List.map_append,List.map_cons,List.map_nil]
     rw[List.take_succ_eq_append_getElem (by simp;omega),List.take_set_of_le (Nat.le_refl _),ht]
     simp
    ·rw[List.drop_set_of_lt (by omega),hd']
  ·have hkk:k=fs.length:=by omega
   subst hkk
   refine cf (by simp) ?_
   rw[List.take_length] at hw ht ⊢
   have:=hK L hL ht
   unfold x180_5e0 at this
   simp only[h134,h135] at this ⊢
   exact this
 ·cases s0
  simp only at h136 h137 h177
  subst h136 h137 h177
  rw[htake0]
  simp
  omega
 ·rw[htake0];simp;omega
 ·rw[htake0]
  rw[List.map_take]
  congr 1
  simp;omega
end Go.AM.SY
namespace Go.AM.SY
open Go Go.AM
theorem sweep_spec (s:St) (o:Mo) (hs:StOk s):F30.sweepS FUEL s.enc o.enc=some (sweepM s).enc:=by
 have hl:=hs.len
 have hdl:(dueL s.files s.floor).length≤12:=by
  unfold dueL
  rw[List.length_map]
  exact Nat.le_trans (List.length_filter_le _ _) hl
 unfold F30.sweepS
 have h0:s.enc.at 0=dl s.nn (s.files.map Fl.enc):=rfl
 have hfl:(s.enc.at 2).i=s.floor:=rfl
 rw[h0,hfl]
 refine bdS (due_spec s.nn s.files s.floor (by omega)) ?_
 refine loop70 (dueL s.files s.floor) (by omega) _ rfl (by simp) (by simp) rfl rfl rfl rfl rfl rfl _ _ ?_
 refine bdS (x:=dl s.nn (s.files.map Fl.enc)) (clone_files s.nn _ (fun h=>by rw[hs.nil h];rfl) (by simp;omega)) ?_
 refine loop38 s.files s.floor (by omega) _ rfl (by simp) (by simp) rfl rfl rfl _ _ (fun i hi=>?_) (fun hn=>?_)
 ·rw[List.findIdx?_eq_some_iff_getElem] at hi
  obtain⟨hil,hdue,hfirst⟩:=hi
  refine cf (by show eqI (i:Int) (-1)=false;simp) ?_
  refine loop96 s.files s.floor (by omega) _ i hil rfl (by simp) rfl ?_ rfl rfl (fun j hj hji=>by simpa using hfirst j hji) hdue _ _ (fun L hL hT=>?_)
  ·show ad .i64 (i:Int) 1=_
   rw[ad64 (by omega) (by omega)];rfl
  have hkl:(keptL s.floor s.files).length≤s.files.length:=List.length_filter_le _ _
  unfold x180_5e0
  dsimp only
  simp only[elems_slice,nn_slice,Int.toNat_natCast,List.length_map]
  refine ct (by simp[hL,hkl]) (ct (by simp[ap,rp,hL];omega) ?_)
  simp only[Nat.zero_add,Nat.add_zero,Nat.sub_zero,List.drop_zero]
  have e1:∀(Y Z:List D),List.take (keptL s.floor s.files).length (ap (ap (List.take (keptL s.floor s.files).length L) Y) Z)=(keptL s.floor s.files).map Fl.enc:=by
   intro Y Z
   rw[←hT]
   simp only[ap,List.append_assoc]
   rw[List.take_append_of_le_length (by simp;omega),List.take_take,Nat.min_self]
  have e2:List.take (dueL s.files s.floor).length (((dueL s.files s.floor).map delEv).map Ev.enc)=((dueL s.files s.floor).map delEv).map Ev.enc:=List.take_of_length_le (by simp)
  rw[e1,e2]
  rfl
 ·rw[List.findIdx?_eq_none_iff] at hn
  have hids:dueL s.files s.floor=[]:=by
   unfold dueL
   rw[List.map_eq_nil_iff,List.filter_eq_nil_iff]
   intro f hf
   have:=hn f hf
   simpa[dueB] using this
  have hkept:(s.files.filter fun f=>!decide (mayN f s.floor=0))=s.files:=by
   rw[List.filter_eq_self]
   intro f hf
   have:=hn f hf
   simpa[dueB] using this
  unfold x78_2e1
  dsimp only
  simp only[elems_slice,nn_slice,List.length_map,List.drop_zero]
  have e1:List.take s.files.length (s.files.map Fl.enc)=s.files.map Fl.enc:=List.take_of_length_le (by simp)
  have e2:List.take (dueL s.files s.floor).length (((dueL s.files s.floor).map delEv).map Ev.enc)=((dueL s.files s.floor).map delEv).map Ev.enc:=List.take_of_length_le (by simp)
  rw[e1,e2]
  unfold sweepM Res.enc
  rw[hkept]
  rfl
end Go.AM.SY
namespace Go.AM.SY
open Go Go.AM
theorem cmp_spec (a b:ByteArray) (ha:a.size≤1048576) (hb:b.size≤1048576):∃n:Int,F186.s FUEL a b=some (di n)∧(n<0↔lessB a b=true):=by
 unfold F186.s
 rw[less_spec a b ha hb,bd_some]
 cases h:lessB a b with
 | true=>exact⟨-1,ct rfl rfl,by simp⟩
 | false=>
  rw[show ∀x y:Option D,cond (db false).b x y=y from fun _ _=>rfl,less_spec b a hb ha,bd_some]
  cases lessB b a with
  | true=>exact⟨1,ct rfl rfl,by simp⟩
  | false=>exact⟨0,cf rfl rfl,by simp⟩
theorem loop73 (nn:Bool) (fs:List Fl) (hl:fs.length≤1048576) (s0:F30.S129_3) (h186:s0.n186=0) (h187:s0.n187=0) (h188:s0.d188=dl nn (fs.map Fl.enc)) (h189:s0.i189=(fs.length:Int)) (h190:s0.i190=0) (h225:s0.b225=false) (h226:s0.l226=[])
  (K:F30.X129_3→Option D) (R:Option D) (hK:K (x129_3e0 { s0 with n187:=fs.length,i190:=(fs.length:Int),b225:=!fs.isEmpty,l226:=(fs.map (·.name)).map dS })=R):goS (F30.st129_3 FUEL) FUEL s0 K=R:=by
 refine goS_rule (fun t:F30.S129_3=>∃k:Nat,t = { s0 with n187:=k,i190:=(k:Int),b225:=!(fs.take k).isEmpty,l226:=((fs.take k).map (·.name)).map dS }∧k≤fs.length) (fun t=>fs.length-t.i190.toNat) (fun o=>o=R) ?_ _ _ ⟨0,?_,by omega⟩ (by rw[h190];simp[FUEL];omega)
 ·rintro _ rec ⟨k,rfl,hk⟩ hrec
  simp only[F30.st129_3,h186,h188,h189]
  by_cases h1:k<fs.length
  ·have hadd:ad .i64 (k:Int) 1=((k+1:Nat):Int):=by rw[ad64 (by omega) (by omega)];rfl
   have htk:fs.take (k+1)=fs.take k++[fs[k]]:=by rw[List.take_succ_eq_append_getElem h1]
   refine ct (by simp;omega) (ct (by simp;omega) (ct (by simp;omega) ?_))
   rw[hadd]
   refine hrec _ ⟨k+1,?_,by omega⟩ ?_
   rotate_left
   ·simp;omega
   rw[F30.S129_3.mk.injEq]
   simp only[h186,h188,h189,true_and,and_true]
   refine⟨?_,?_⟩
   ·rw[htk];cases fs.take k<;>rfl
   ·rw[htk]
    simp only[List.map_append,List.map_cons,List.map_nil,ap,List.drop_zero,elems_slice,Int.toNat_natCast]
    rw[List.take_of_length_le (by simp;omega),ix_map h1]
    rfl
  ·have hkk:k=fs.length:=by omega
   refine cf (by simp;omega) ?_
   subst hkk
   rw[List.take_length]
   unfold x129_3e0 at hK
   simp only[h186,h188,h189] at hK ⊢
   exact hK
 ·cases s0
  simp only at h187 h190 h225 h226
  subst h187 h190 h225 h226
  simp
theorem rise_mid {A B:List ByteArray} {x:ByteArray} (h:riseB (A++B)) (hB:∀b∈B,lessB x b=true) (hA:∀a∈A,lessB a x=true):riseB (A++x::B):=by
 unfold riseB at h ⊢
 rw[List.pairwise_append] at h ⊢
 refine⟨h.1,List.pairwise_cons.2 ⟨hB,h.2.1⟩,fun a ha b hb=>?_⟩
 rcases List.mem_cons.1 hb with rfl | hb
 ·exact hA a ha
 ·exact h.2.2 a ha b hb
theorem loop113_4 (A B rest:List ByteArray) (x:ByteArray) (n:Nat) (hn:n=(A++x::B++rest).length) (hn12:n≤1048576) (hsz:∀y∈A++x::B++rest,y.size≤1048576) (hrise:riseB (A++B)) (hxB:∀b∈B,lessB x b=true) (hxA:x∉A)
  (s0:F30.S255_4) (h310:s0.n310=0) (h311:s0.n311=n) (h312:s0.i312=0) (h315:s0.i315=(A.length:Int)) (h351:s0.l351=(A++x::B++rest).map dS)
  (K:F30.X255_4→Option D) (R:Option D) (hK:∀A' B':List ByteArray,riseB (A'++x::B')→A'++B'=A++B→(∀r,K (x255_4e0 { s0 with i315:=(A'.length:Int),l351:=(A'++x::B'++rest).map dS } r)=R)∧K (x255_4e1 { s0 with i315:=(A'.length:Int),l351:=(A'++x::B'++rest).map dS })=R) :
  goS (F30.st255_4 FUEL) FUEL s0 K=R:=by
 refine goS_rule (fun t:F30.S255_4=>∃A' B':List ByteArray,t = { s0 with i315:=(A'.length:Int),l351:=(A'++x::B'++rest).map dS }∧A'++B'=A++B∧(∀b∈B',lessB x b=true)∧x∉A') (fun t=>t.i315.toNat) (fun o=>o=R) ?_ _ _ ⟨A,B,?_,rfl,hxB,hxA⟩ (by rw[h315];simp only[List.length_append,List.length_cons] at hn;simp[FUEL];omega)
 ·rintro _ rec ⟨A',B',rfl,hAB,hB',hA'⟩ hrec
  have hrise':riseB (A'++B'):=by rw[hAB];exact hrise
  have hlen:A'.length+B'.length=A.length+B.length:=by have:=congrArg List.length hAB;simpa using this
  have hmem:∀y,y∈A'++B'↔y∈A++B:=fun y=>by rw[hAB]
  simp only[F30.st255_4,h310,h311,h312]
  simp only[List.length_append,List.length_cons] at hn
  rcases List.eq_nil_or_concat A' with rfl | ⟨A0,y,rfl⟩
  ·refine cf (by simp) ?_
   have:=(hK [] B' (rise_mid (A:=[]) hrise' hB' (by simp)) hAB).2
   unfold x255_4e1 at this
   simp only[h310,h311,h312] at this ⊢
   exact this
  ·simp only[List.concat_eq_append] at *
   have hxs:x.size≤1048576:=hsz x (by simp)
   have hys:y.size≤1048576:=by
    have:=(hmem y).1 (by simp)
    exact hsz y (by simp at this ⊢;rcases this with h | h<;>simp[h])
   have hlA:((A0++[y]).length:Int)=((A0.length+1:Nat):Int):=by simp
   rw[hlA]
   have hsub:sb .i64 ((A0.length+1:Nat):Int) 1=(A0.length:Int):=by
    simp only[List.length_append,List.length_cons,List.length_nil] at hlen
    rw[sb64 (by omega) (by omega)];omega
   have hL:((A0++[y])++x::B'++rest).map dS=A0.map dS++dS y::dS x::(B'++rest).map dS:=by simp
   have e1:ix (A0.map dS++dS y::dS x::(B'++rest).map dS) (0+(Int.toNat ((A0.length+1:Nat):Int)))=dS x:=by
    rw[ix_eq (by simp)]
    simp[List.getElem_append]
   have e2:ix (A0.map dS++dS y::dS x::(B'++rest).map dS) (0+(Int.toNat (A0.length:Int)))=dS y:=by
    rw[ix_eq (by simp)]
    simp[List.getElem_append]
   simp only[List.length_append,List.length_cons,List.length_nil] at hlen
   rw[hL,hsub,e1,e2]
   refine ct (by simp only[gtI_t];omega) (ct (by simp only[inb_t];omega) (ct (by simp only[inb_t];omega) ?_))
   obtain⟨c,hc1,hc2⟩:=cmp_spec x y hxs hys
   refine bdS hc1 ?_
   by_cases hlt:lessB x y=true
   ·refine ct (by have:=hc2.2 hlt;simpa using this) (ct (by simp only[inb_t];omega) (ct (by simp only[inb_t];omega) (ct (by simp only[inb_t];omega) (ct (by simp only[inb_t];omega) ?_))))
    have e3:((A0.map dS++dS y::dS x::(B'++rest).map dS).set (0+(Int.toNat ((A0.length+1:Nat):Int))) (dS y)).set (0+(Int.toNat (A0.length:Int))) (dS x)=(A0++x::(y::B')++rest).map dS:=by
     simp[List.set_append]
    rw[e3]
    refine hrec _ ⟨A0,y::B',?_,by rw[←hAB];simp,?_,fun h=>hA' (by simp[h])⟩ ?_
    ·simp only[h310,h311,h312]
    ·intro b hb
     rcases List.mem_cons.1 hb with rfl | hb
     ·exact hlt
     ·exact hB' b hb
    ·simp
   ·refine cf (by have:¬c<0:=fun h=>hlt (hc2.1 h);simp;omega) ?_
    have hyx:lessB y x=true:=less_of_not (by simpa using hlt) (fun e=>hA' (by simp[e]))
    have hall:∀a∈A0++[y],lessB a x=true:=by
     intro a ha
     rcases List.mem_append.1 ha with ha | ha
     ·have hp:=(List.pairwise_append.1 hrise').1
      exact less_trans ((List.pairwise_append.1 hp).2.2 a ha y (by simp)) hyx
     ·simp only[List.mem_singleton] at ha;subst ha;exact hyx
    have:=(hK (A0++[y]) B' (rise_mid hrise' hB' hall) hAB).1 (di c)
    unfold x255_4e0 at this
    simp only[h310,h311,h312] at this ⊢
    rw[hL,hlA] at this
    exact this
 ·cases s0
  simp only at h315 h351
  subst h315 h351
  rfl
theorem loop113_1 (names:List ByteArray) (n:Nat) (hn:n=names.length) (hn12:n≤1000000) (hsz:∀y∈names,y.size≤1048576) (hnd:names.Nodup)
  (s0:F30.S255_1) (h269:s0.n269=0) (h270:s0.n270=n) (h271:s0.i271=0) (h272:s0.i272=(n:Int)) (h273:s0.i273=1) (h309:s0.l309=names.map dS)
  (K:F30.X255_1→Option D) (R:Option D) (hK:∀i:Int,K (x255_1e0 { s0 with i273:=i,l309:=(sortN names).map dS })=R):goS (F30.st255_1 FUEL) FUEL s0 K=R:=by
 refine goS_rule (fun t:F30.S255_1=>∃(k:Nat) (l:List ByteArray),t = { s0 with i273:=(k:Int),l309:=l.map dS }∧1≤k∧(k≤n∨k=1)∧l.Perm names∧riseB (l.take k)) (fun t=>n-t.i273.toNat) (fun o=>o=R) ?_ _ _ ⟨1,names,?_,by omega,.inr rfl,List.Perm.refl _,?_⟩ (by rw[h273];simp[FUEL];omega)
 ·rintro _ rec ⟨k,l,rfl,hk1,hk2,hp,hr⟩ hrec
  have hll:l.length=n:=by rw[hn];exact hp.length_eq
  have hlnd:l.Nodup:=hp.nodup_iff.2 hnd
  simp only[F30.st255_1,h269,h270,h271,h272]
  by_cases h1:k<n
  ·have hadd:ad .i64 (k:Int) 1=((k+1:Nat):Int):=by rw[ad64 (by omega) (by omega)];rfl
   have hsplit:l=l.take k++l[k]::[]++l.drop (k+1):=by simp
   refine ct (by simp;omega) ?_
   have hxA:l[k]∉l.take k:=by
    intro h
    obtain⟨j,hj,he⟩:=List.getElem_of_mem h
    simp only[List.length_take] at hj
    rw[List.getElem_take] at he
    exact(List.pairwise_iff_getElem.1 hlnd) j k (by omega) (by omega) (by omega) he
   refine loop113_4 (l.take k) [] (l.drop (k+1)) l[k] n (by rw[←hsplit];exact hll.symm) (by omega) (fun y hy=>hsz y (hp.mem_iff.1 (by rw[←hsplit] at hy;exact hy))) (by simpa using hr) (by simp) hxA _ rfl rfl rfl (by show (k:Int)=_;simp;omega) (by show l.map dS=_;rw[←hsplit]) _ _ (fun A' B' hr' hab=>?_)
   ·have hlen:A'.length+B'.length=k:=by have:=congrArg List.length hab;simp at this;omega
    have hperm:(A'++l[k]::B'++l.drop (k+1)).Perm l:=by
     have h2:(A'++l[k]::B').Perm (l.take k++[l[k]]):=by
      refine List.perm_middle.trans (((List.Perm.of_eq hab).cons _).trans ?_)
      rw[List.append_nil]
      exact(List.perm_append_singleton _ _).symm
     have h3:=h2.append_right (l.drop (k+1))
     have h4:l.take k++[l[k]]++l.drop (k+1)=l:=by simp
     rw[h4] at h3
     exact h3
    have hfin:rec { s0 with i273:=ad .i64 (k:Int) 1,l309:=(A'++l[k]::B'++l.drop (k+1)).map dS }=R:=by
     rw[hadd]
     refine hrec _ ⟨k+1,A'++l[k]::B'++l.drop (k+1),rfl,by omega,by omega,hperm.trans hp,?_⟩ ?_
     ·rw[List.take_append_of_le_length (by simp;omega),List.take_of_length_le (by simp;omega)]
      exact hr'
     ·simp;omega
    rw[h269,h270,h271,h272] at hfin
    exact⟨fun r=>hfin,hfin⟩
  ·refine cf (by simp;omega) ?_
   have hfull:l.take k=l:=List.take_of_length_le (by omega)
   rw[hfull] at hr
   have hl:l=sortN names:=rise_eq hr (sortN_rise hnd) (hp.trans (sortN_perm names).symm)
   subst hl
   have:=hK (k:Int)
   unfold x255_1e0 at this
   simp only[h269,h270,h271,h272] at this ⊢
   exact this
 ·cases s0
  simp only at h273 h309
  subst h273 h309
  rfl
 ·unfold riseB
  cases names with
  | nil=>simp
  | cons a l=>simp
end Go.AM.SY
namespace Go.AM.SY
open Go Go.AM
theorem loop108_2 (s0:F30.S231_2) (h:s0.i229<s0.i232) (K:F30.X231_2→Option D) (R:Option D) (hK:K (x231_2e0 s0)=R):goS (F30.st231_2 FUEL) FUEL s0 K=R:=by
 refine goS_rule (fun t:F30.S231_2=>t=s0) (fun _=>0) (fun o=>o=R) ?_ _ _ rfl (by simp)
 rintro s1 rec rfl hrec
 cases s1
 simp only[F30.st231_2]
 exact cf (by simpa using h) hK
theorem loop108_7 (s0:F30.S231_7) (h:s0.i355≤s0.i356) (K:F30.X231_7→Option D) (R:Option D) (hK:K (x231_7e0 s0)=R):goS (F30.st231_7 FUEL) FUEL s0 K=R:=by
 refine goS_rule (fun t:F30.S231_7=>t=s0) (fun _=>0) (fun o=>o=R) ?_ _ _ rfl (by simp)
 rintro s1 rec rfl hrec
 cases s1
 simp only[F30.st231_7]
 exact cf (by simpa using h) hK
theorem names_nodup {s:St} (hs:StOk s):(s.files.map (·.name)).Nodup:=by
 unfold List.Nodup
 rw[List.pairwise_map]
 exact hs.names
theorem list_spec (s:St) (o:Mo) (hs:StOk s):F30.listS FUEL s.enc o.enc=some (listM s).enc:=by
 have hl:=hs.len
 unfold F30.listS
 have h0:s.enc.at 0=dl s.nn (s.files.map Fl.enc):=rfl
 rw[h0]
 refine loop73 s.nn s.files (by omega) _ rfl rfl rfl (by simp) rfl rfl rfl _ _ ?_
 unfold x129_3e0
 dsimp only
 refine loop108_2 _ (by simp;omega) _ _ ?_
 unfold x231_2e0
 dsimp only
 refine loop113_1 (s.files.map (·.name)) s.files.length (by simp) (by omega) (fun y hy=>?_) (names_nodup hs) _ rfl rfl rfl (by simp) ?_ rfl _ _ (fun i=>?_)
 ·obtain⟨f,hf,rfl⟩:=List.mem_map.1 hy
  have:=(hs.files f hf).nsz;omega
 ·show ad .i64 0 1=1
  rw[ad64 (by omega) (by omega)];rfl
 unfold x255_1e0
 dsimp only
 refine loop108_7 _ (by simp;omega) _ _ ?_
 unfold x231_7e0
 dsimp only
 have e:List.take s.files.length (List.drop 0 ((sortN (s.files.map (·.name))).map dS))=(sortN (s.files.map (·.name))).map dS:=by
  rw[List.drop_zero,List.take_of_length_le]
  have:=(sortN_perm (s.files.map (·.name))).length_eq
  simp at this ⊢;omega
 rw[e]
 rfl
theorem create_spec (s:St) (o:Mo) (hs:StOk s) (ho:MoOk o):F30.createS FUEL s.enc o.enc=some (createM s o).enc:=by
 have hl:=hs.len
 have l0:=hs.last0
 have l1:=hs.last1
 unfold F30.createS createM
 have hn:(o.enc.at 1).s=o.name:=rfl
 have h0:s.enc.at 0=dl s.nn (s.files.map Fl.enc):=rfl
 have hla:(s.enc.at 1).i=s.last:=rfl
 have hon:=ho.name
 rw[hn,h0,hla]
 refine bdS (name_spec o.name (by omega)) ?_
 cases hv:nameB o.name with
 | false=>rw[if_pos rfl];exact ct rfl (stay_enc s 2)
 | true=>
  rw[if_neg (by simp)]
  refine cf rfl (bdS (find_specM s o.name (by omega)) ?_)
  by_cases h1:0≤findI (fun f:Fl=>decide (f.name=o.name)) s.files
  ·rw[if_pos h1];exact ct (by simpa using h1) (stay_enc s 4)
  rw[if_neg h1]
  refine cf (by simp only[geI_f,i_int];omega) ?_
  by_cases h2:12≤s.files.length
  ·rw[if_pos h2];exact ct (by simp;omega) (stay_enc s 10)
  rw[if_neg h2]
  refine cf (by simp;omega) ?_
  by_cases h3:1099511627776≤s.last
  ·rw[if_pos h3];exact ct (by simpa using h3) (stay_enc s 10)
  rw[if_neg h3]
  refine cf (by simp;omega) ?_
  have hadd:ad .i64 s.last 1=s.last+1:=by rw[ad64 (by omega) (by omega)]
  have hnew:newF (s.last+1) o.name=(⟨s.last+1,o.name,bs [],false,0,false,[]⟩,0):=by
   unfold newF
   rw[if_neg (by simp[hv]),if_pos (by omega)]
  refine bdS (by rw[hadd];exact new_spec (s.last+1) o.name (by omega)) ?_
  rw[hnew]
  refine cf rfl (bdS (clone_files s.nn _ (fun h=>by rw[hs.nil h];rfl) (by simp;omega)) (ct (by simp;omega) ?_))
  have e:((ap (((s.files.map Fl.enc).drop 0).take (s.files.map Fl.enc).length) [Fl.enc ⟨s.last+1,o.name,bs [],false,0,false,[]⟩]).drop 0).take ((s.files.map Fl.enc).length+1)=(s.files++[(⟨s.last+1,o.name,bs [],false,0,false,[]⟩:Fl)]).map Fl.enc:=by
   rw[List.drop_zero,List.drop_zero,ap,List.take_of_length_le (l:=s.files.map Fl.enc) (Nat.le_refl _),List.take_of_length_le (by simp)]
   simp
  have e2:(s.nn||true)=true:=by simp
  refine Eq.trans ?_ (congrArg (fun l=>some (D.tup [da [dl true l,di (s.last+1),di s.floor],(An.enc ⟨0,s.last+1,bs [],zeroF,false,[]⟩),dl true [Ev.enc ⟨0,s.last+1,o.name,0,0,zeros⟩]])) e)
  show some (D.tup [da [dl (s.nn||true) _,_,_],_,_])=_
  rw[e2]
  rfl
theorem do_specM (s:St) (o:Mo) (hs:StOk s) (ho:MoOk o):F30.s FUEL s.enc o.enc=some (doM shaL s o).enc:=by
 have hl:=hs.len
 unfold F30.s
 by_cases hneg:o.kind<0
 ·have hR:doM shaL s o=stay s 1:=by unfold doM;rw[if_pos hneg]
  rw[hR]
  exact ct (by show ltI o.kind 0=true;simpa using hneg) (stay_enc s 1)
 refine cf (by show ltI o.kind 0=false;simp;omega) ?_
 by_cases hbig:12≤o.kind
 ·have hR:doM shaL s o=stay s 1:=by unfold doM;rw[if_neg hneg,if_pos hbig]
  rw[hR]
  exact ct (by show geI o.kind 12=true;simpa using hbig) (stay_enc s 1)
 refine cf (by show geI o.kind 12=false;simp;omega) (ct (by show inb o.kind 12=true;simp;omega) ?_)
 by_cases h0:o.kind=0
 ·have hR:doM shaL s o=createM s o:=by
   unfold doM
   repeat (first | rw[if_neg (by omega)] | rw[if_pos (by omega)])
  rw[hR]
  refine ct (by show (o.kind.toNat==0)=true;rw[h0];rfl) ?_
  exact create_spec s o hs ho
 refine cf (by show (o.kind.toNat==0)=false;simp;omega) ?_
 by_cases h1:o.kind=1
 ·have hR:doM shaL s o=changeM shaL s o:=by
   unfold doM
   repeat (first | rw[if_neg (by omega)] | rw[if_pos (by omega)])
  rw[hR]
  refine ct (by show ((o.kind.toNat-1)==0)=true;rw[h1];rfl) ?_
  exact change_spec s o hs ho
 refine cf (by show ((o.kind.toNat-1)==0)=false;simp;omega) ?_
 by_cases h2:o.kind=2
 ·have hR:doM shaL s o=changeM shaL s o:=by
   unfold doM
   repeat (first | rw[if_neg (by omega)] | rw[if_pos (by omega)])
  rw[hR]
  refine ct (by show (((o.kind.toNat-1)-1)==0)=true;rw[h2];rfl) ?_
  exact change_spec s o hs ho
 refine cf (by show (((o.kind.toNat-1)-1)==0)=false;simp;omega) ?_
 by_cases h3:o.kind=3
 ·have hR:doM shaL s o=changeM shaL s o:=by
   unfold doM
   repeat (first | rw[if_neg (by omega)] | rw[if_pos (by omega)])
  rw[hR]
  refine ct (by show ((((o.kind.toNat-1)-1)-1)==0)=true;rw[h3];rfl) ?_
  exact change_spec s o hs ho
 refine cf (by show ((((o.kind.toNat-1)-1)-1)==0)=false;simp;omega) ?_
 by_cases h4:o.kind=4
 ·have hR:doM shaL s o=changeM shaL s o:=by
   unfold doM
   repeat (first | rw[if_neg (by omega)] | rw[if_pos (by omega)])
  rw[hR]
  refine ct (by show (((((o.kind.toNat-1)-1)-1)-1)==0)=true;rw[h4];rfl) ?_
  exact change_spec s o hs ho
 refine cf (by show (((((o.kind.toNat-1)-1)-1)-1)==0)=false;simp;omega) ?_
 by_cases h5:o.kind=5
 ·have hR:doM shaL s o=changeM shaL s o:=by
   unfold doM
   repeat (first | rw[if_neg (by omega)] | rw[if_pos (by omega)])
  rw[hR]
  refine ct (by show ((((((o.kind.toNat-1)-1)-1)-1)-1)==0)=true;rw[h5];rfl) ?_
  exact change_spec s o hs ho
 refine cf (by show ((((((o.kind.toNat-1)-1)-1)-1)-1)==0)=false;simp;omega) ?_
 by_cases h6:o.kind=6
 ·have hR:doM shaL s o=changeM shaL s o:=by
   unfold doM
   repeat (first | rw[if_neg (by omega)] | rw[if_pos (by omega)])
  rw[hR]
  refine ct (by show (((((((o.kind.toNat-1)-1)-1)-1)-1)-1)==0)=true;rw[h6];rfl) ?_
  exact change_spec s o hs ho
 refine cf (by show (((((((o.kind.toNat-1)-1)-1)-1)-1)-1)==0)=false;simp;omega) ?_
 by_cases h7:o.kind=7
 ·have hR:doM shaL s o=tickM s o:=by
   unfold doM
   repeat (first | rw[if_neg (by omega)] | rw[if_pos (by omega)])
  rw[hR]
  refine ct (by show ((((((((o.kind.toNat-1)-1)-1)-1)-1)-1)-1)==0)=true;rw[h7];rfl) ?_
  refine bdS (floor_spec s.floor o.time) ?_
  unfold tickM
  by_cases hf:floorN s.floor o.time=s.floor
  ·rw[if_pos hf]
   exact cf (by show neI (floorN s.floor o.time) s.floor=false;simpa using hf) rfl
  ·rw[if_neg hf]
   exact ct (by show neI (floorN s.floor o.time) s.floor=true;simpa using hf) rfl
 refine cf (by show ((((((((o.kind.toNat-1)-1)-1)-1)-1)-1)-1)==0)=false;simp;omega) ?_
 by_cases h8:o.kind=8
 ·have hR:doM shaL s o=sweepM s:=by
   unfold doM
   repeat (first | rw[if_neg (by omega)] | rw[if_pos (by omega)])
  rw[hR]
  refine ct (by show (((((((((o.kind.toNat-1)-1)-1)-1)-1)-1)-1)-1)==0)=true;rw[h8];rfl) ?_
  exact sweep_spec s o hs
 refine cf (by show (((((((((o.kind.toNat-1)-1)-1)-1)-1)-1)-1)-1)==0)=false;simp;omega) ?_
 by_cases h9:o.kind=9
 ·have hR:doM shaL s o=readM s o:=by
   unfold doM
   repeat (first | rw[if_neg (by omega)] | rw[if_pos (by omega)])
  rw[hR]
  refine ct (by show ((((((((((o.kind.toNat-1)-1)-1)-1)-1)-1)-1)-1)-1)==0)=true;rw[h9];rfl) ?_
  unfold readM
  refine bdS (find_specM s o.name (by omega)) ?_
  cases hx:findM s o.name with
  | none=>
   dsimp only
   rw[findI_none hx]
   exact ct (by simp) (stay_enc s 3)
  | some i=>
   obtain⟨hi,hnm⟩:=findM_is hx
   dsimp only
   rw[List.getElem?_eq_getElem hi,findI_some hx]
   dsimp only
   have hie:ix (s.enc.at 0).elems ((di (i:Int)).i).toNat=s.files[i].enc:=by
    show ix (s.files.map Fl.enc) (i:Int).toNat=_
    rw[Int.toNat_natCast,ix_map hi]
   refine cf (by simp) (ct (by show inb (i:Int) (s.files.map Fl.enc).length=true;simp;omega) ?_)
   rw[hie]
   exact bdS (read_spec s.files[i] o.a o.b) rfl
 refine cf (by show ((((((((((o.kind.toNat-1)-1)-1)-1)-1)-1)-1)-1)-1)==0)=false;simp;omega) ?_
 by_cases h10:o.kind=10
 ·have hR:doM shaL s o=statM s o:=by
   unfold doM
   repeat (first | rw[if_neg (by omega)] | rw[if_pos (by omega)])
  rw[hR]
  refine ct (by show (((((((((((o.kind.toNat-1)-1)-1)-1)-1)-1)-1)-1)-1)-1)==0)=true;rw[h10];rfl) ?_
  unfold statM
  refine bdS (find_specM s o.name (by omega)) ?_
  cases hx:findM s o.name with
  | none=>
   dsimp only
   rw[findI_none hx]
   exact ct (by simp) (stay_enc s 3)
  | some i=>
   obtain⟨hi,hnm⟩:=findM_is hx
   dsimp only
   rw[List.getElem?_eq_getElem hi,findI_some hx]
   dsimp only
   have hie:ix (s.enc.at 0).elems ((di (i:Int)).i).toNat=s.files[i].enc:=by
    show ix (s.files.map Fl.enc) (i:Int).toNat=_
    rw[Int.toNat_natCast,ix_map hi]
   refine cf (by simp) (ct (by show inb (i:Int) (s.files.map Fl.enc).length=true;simp;omega) ?_)
   rw[hie]
   exact bdS (meta_spec s.files[i]) rfl
 refine cf (by show (((((((((((o.kind.toNat-1)-1)-1)-1)-1)-1)-1)-1)-1)-1)==0)=false;simp;omega) ?_
 by_cases h11:o.kind=11
 ·have hR:doM shaL s o=listM s:=by
   unfold doM
   repeat (first | rw[if_neg (by omega)] | rw[if_pos (by omega)])
  rw[hR]
  refine ct (by show ((((((((((((o.kind.toNat-1)-1)-1)-1)-1)-1)-1)-1)-1)-1)-1)==0)=true;rw[h11];rfl) ?_
  exact list_spec s o hs
 refine cf (by show ((((((((((((o.kind.toNat-1)-1)-1)-1)-1)-1)-1)-1)-1)-1)-1)==0)=false;simp;omega) ?_
 omega
end Go.AM.SY
namespace Go.AM.SY
open Go Go.AM
def Run.enc (r:Run):D:=.tup [r.st.enc,dl r.nnA (r.ans.map An.enc),dl r.nnE (r.evs.map Ev.enc)]
theorem do_evs_len {sum:ByteArray→List Int} {s:St} {o:Mo} (hs:StOk s):(doM sum s o).evs.length≤12:=by
 unfold doM
 repeat' split
 ·simp[stay]
 ·simp[stay]
 ·unfold createM;repeat' split
  all_goals simp[stay]
 ·unfold tickM;split<;>simp
 ·have:=hs.len
  simp only[sweepM,dueL,List.length_map]
  exact Nat.le_trans (List.length_filter_le _ _) this
 ·unfold readM;repeat' split
  all_goals simp[stay]
 ·unfold statM;repeat' split
  all_goals simp[stay]
 ·simp[listM]
 ·unfold changeM;repeat' split
  all_goals simp[stay]
def oneM (o:Mo):Bool:=decide (o.text.size≤700)&&decide (o.name.size≤200)
def fewM (l:List Mo):Bool:=decide (l.length≤30)&&(l.take 31).all oneM
structure Mo.ok (o:Mo):Prop where
 kind:i64ok o.kind
 time:i64ok o.time
 a:i64ok o.a
 b:i64ok o.b
theorem mo_of {d:D} (h:D.has ty d (.struct [28,9,9,3,3,3])) (hw:D.wf d):∃o:Mo,d=o.enc∧o.ok:=by
 obtain⟨ds,rfl,hh⟩:=hass_struct h
 clear h
 have hf:List.map ty [28,9,9,3,3,3]=[.int .i64,.str,.str,.int .i64,.int .i64,.int .i64]:=rfl
 rw[hf] at hh
 obtain⟨d0,_,rfl,h0,hh⟩:=hassC hh
 obtain⟨d1,_,rfl,h1,hh⟩:=hassC hh
 obtain⟨d2,_,rfl,h2,hh⟩:=hassC hh
 obtain⟨d3,_,rfl,h3,hh⟩:=hassC hh
 obtain⟨d4,_,rfl,h4,hh⟩:=hassC hh
 obtain⟨d5,_,rfl,h5,hh⟩:=hassC hh
 obtain rfl:=hass0 hh
 obtain⟨x0,rfl⟩:=has_int h0
 obtain⟨x1,rfl⟩:=has_str h1
 obtain⟨x2,rfl⟩:=has_str h2
 obtain⟨x3,rfl⟩:=has_int h3
 obtain⟨x4,rfl⟩:=has_int h4
 obtain⟨x5,rfl⟩:=has_int h5
 rw[D.wf] at hw
 simp only[D.wfs] at hw
 exact⟨⟨x0,x1,x2,x3,x4,x5⟩,rfl,wf_i64 hw.1,wf_i64 hw.2.2.2.1,wf_i64 hw.2.2.2.2.1,wf_i64 hw.2.2.2.2.2.1⟩
theorem mos_of {d:D} (h:D.has ty d (.slice 74)) (hw:D.wf d):∃(nn:Bool) (l:List Mo),d=dl nn (l.map Mo.enc)∧∀o∈l,o.ok:=by
 obtain⟨nn,ds,rfl,h1,h2⟩:=hass_slice h
 simp only[D.wf] at hw
 obtain⟨l,rfl,_,hl⟩:=hass_rep (f:=Mo.enc) (Q:=fun o:Mo=>o.ok) (fun d h1 h2=>mo_of h1 h2) h1 (by first | exact hw | exact hw.1 | exact hw.2)
 exact⟨nn,l,rfl,hl⟩
theorem few_okM {l:List Mo} (h:fewM l=true) (hs:∀o∈l,o.ok):l.length≤30∧∀o∈l,MoOk o:=by
 unfold fewM at h
 simp only[Bool.and_eq_true,decide_eq_true_eq,List.all_eq_true] at h
 refine⟨h.1,fun o ho=>?_⟩
 have h2:=h.2 o (by rw[List.take_of_length_le (by omega)];exact ho)
 simp only[oneM,Bool.and_eq_true,decide_eq_true_eq] at h2
 exact⟨(hs o ho).kind,(hs o ho).time,(hs o ho).a,(hs o ho).b,by omega,by omega⟩
end Go.AM.SY
namespace Go.AM.SY
open Go Go.AM
theorem run_spec (s:St) (nn:Bool) (l:List Mo) (hs:StOk s) (hl:∀o∈l,MoOk o) (hlen:l.length≤1000):F26.s FUEL s.enc (dl nn (l.map Mo.enc))=some (runM shaL s l).enc:=by
 unfold F26.s
 refine goS_rule (fun t:F26.S4=>∃(k:Nat) (r:Run),t=⟨0,k,0,r.evs.length,dl nn (l.map Mo.enc),nI l.length,(k:Int),r.st.enc,false,[],0,0,r.nnA,r.ans.map An.enc,r.nnE,r.evs.map Ev.enc⟩∧k≤l.length∧StOk r.st∧r.ans.length=k∧r.evs.length≤12*k∧runM shaL s l=runFrom shaL (l.drop k) r) (fun t=>l.length-t.i7.toNat) (fun o=>o=some (runM shaL s l).enc) ?_ _ _ ⟨0,run0 s,by simp[run0],by omega,hs,rfl,by simp[run0],by simp[runM]⟩ (by simp[FUEL];omega)
 rintro _ rec ⟨k,r,rfl,hk,hr,hra,hre,hrun⟩ hrec
 simp only[F26.st4]
 by_cases h1:k<l.length
 ·have hadd:ad .i64 (k:Int) 1=((k+1:Nat):Int):=by rw[ad64 (by omega) (by omega)];rfl
  have ho:=hl _ (List.getElem_mem h1)
  have hev:=do_evs_len (sum:=shaL) (o:=l[k]) hr
  refine ct (by simp;omega) (ct (by simp;omega) ?_)
  simp only[elems_slice,Int.toNat_natCast,ix_map h1]
  refine bdS (do_specM r.st l[k] hr ho) ?_
  rw[List.drop_eq_getElem_cons h1,runFrom] at hrun
  refine ct (by simp;omega) (ct (by show mx (r.evs.length+((doM shaL r.st l[k]).evs.map Ev.enc).length)=true;simp;omega) ?_)
  rw[hadd]
  refine hrec _ ⟨k+1,_,?_,by omega,do_ok hr ho,by simp[hra],by simp;omega,hrun⟩ ?_
  ·rw[F26.S4.mk.injEq]
   refine⟨rfl,rfl,rfl,?_,rfl,rfl,rfl,rfl,rfl,rfl,rfl,rfl,?_,?_,?_,?_⟩
   ·show r.evs.length+((doM shaL r.st l[k]).evs.map Ev.enc).length=(r.evs++(doM shaL r.st l[k]).evs).length
    simp
   ·simp
   ·show ap (((r.ans.map An.enc).drop 0).take k) [(doM shaL r.st l[k]).an.enc]=(r.ans++[(doM shaL r.st l[k]).an]).map An.enc
    rw[List.drop_zero,List.take_of_length_le (by simp[hra]),ap,List.map_append]
    rfl
   ·show (r.nnE||!((doM shaL r.st l[k]).evs.map Ev.enc).isEmpty)=(r.nnE||!(doM shaL r.st l[k]).evs.isEmpty)
    simp
   ·show ap (((r.evs.map Ev.enc).drop 0).take r.evs.length) ((doM shaL r.st l[k]).evs.map Ev.enc)=(r.evs++(doM shaL r.st l[k]).evs).map Ev.enc
    rw[List.drop_zero,List.take_of_length_le (by simp),ap,List.map_append]
  ·dsimp only;omega
 ·refine cf (by simp;omega) ?_
  rw[List.drop_of_length_le (by omega),runFrom] at hrun
  rw[hrun]
  show some (D.tup [r.st.enc,dl r.nnA (((r.ans.map An.enc).drop 0).take k),dl r.nnE (((r.evs.map Ev.enc).drop 0).take r.evs.length)])=_
  rw[List.drop_zero,List.drop_zero,List.take_of_length_le (by simp[hra]),List.take_of_length_le (by simp)]
  rfl
end Go.AM.SY
namespace Go.AM.SY
open Go Go.AM
def Full (l:List D) (a m:Nat):Prop:=a+m≤l.length
theorem full_len {l:List D} {a m:Nat} (h:Full l a m):((l.drop a).take m).length=m:=by
 unfold Full at h
 simp;omega
theorem full_ap {l:List D} {a m:Nat} (h:Full l a m) (x:List D):Full (ap ((l.drop a).take m) x) 0 (m+x.length):=by
 unfold Full ap
 rw[List.length_append,full_len h]
 omega
theorem byte_len (s:ByteArray):(bytesOf s).length=s.size:=by simp[bytesOf]
theorem byte_size (l:List D):(ofBytes l).size=l.length:=by
 show (l.map _).toArray.size=_
 simp
def digs:Nat→Nat→Nat
 | 0,_=>1
 | k+1,n=>if n<128 then 1 else digs k (n / 128)+1
def nlen (n:Int):Nat:=digs 8 (min (max n 0) 1125899906842624).toNat
theorem digs_pos:∀(k n:Nat),1≤digs k n
 | 0,_=>by simp[digs]
 | k+1,n=>by simp only[digs];split<;>omega
theorem digs_le:∀(k n:Nat),digs k n≤k+1
 | 0,_=>by simp[digs]
 | k+1,n=>by
  simp only[digs]
  have:=digs_le k (n / 128)
  split<;>omega
theorem nlen_le (n:Int):1≤nlen n∧nlen n≤9:=⟨digs_pos _ _,digs_le _ _⟩
theorem shr7 {n:Nat}:shrI .i64 (n:Int) 7=((n / 128:Nat):Int):=by
 have:min 7 IntKind.i64.bits=7:=rfl
 unfold shrI
 rw[this,Int.fdiv_eq_ediv_of_nonneg _ (by decide)]
 norm_cast
theorem pct {Post:Option D→Prop} {c:Bool} {a b:Option D} (h:c=true) (k:Post a):Post (cond c a b):=by subst h;exact k
theorem pcf {Post:Option D→Prop} {c:Bool} {a b:Option D} (h:c=false) (k:Post b):Post (cond c a b):=by subst h;exact k
theorem pbd {Post:Option D→Prop} {o:Option D} {x:D} {f:D→Option D} (h:o=some x) (k:Post (f x)):Post (bd o f):=by subst h;exact k
theorem num_loop {Post:Option D→Prop} (K:F90.X3→Option D):∀(k m n a c:Nat) (b:Bool) (l:List D),n<128^(k+1)→k+1≤m→c+k≤1000→Full l a c →
  (∀(i:Int) (a':Nat) (b':Bool) (l':List D),Full l' a' (c+digs k n-1)→Post (K (.e0 i a' (c+digs k n-1) b' l')))→Post (goS (F90.st3 FUEL) m ⟨(n:Int),a,c,b,l⟩ K)
 | 0,m,n,a,c,b,l,hn,hm,hc,hf,hK=>by
  obtain⟨m,rfl⟩:∃m',m=m'+1:=⟨m-1,by omega⟩
  simp only[goS,F90.st3]
  refine pcf (by simp;omega) ?_
  have:=hK n a b l (by simpa[digs] using hf)
  simpa[digs] using this
 | k+1,m,n,a,c,b,l,hn,hm,hc,hf,hK=>by
  obtain⟨m,rfl⟩:∃m',m=m'+1:=⟨m-1,by omega⟩
  simp only[goS,F90.st3]
  by_cases h1:n<128
  ·refine pcf (by simp;omega) ?_
   have:=hK n a b l (by simpa[digs,h1] using hf)
   simpa[digs,h1] using this
  ·refine pct (by simp;omega) (pct (by simp;omega) ?_)
   rw[shr7]
   have hd:=digs_pos k (n / 128)
   refine num_loop K k m (n / 128) 0 (c+1) _ _ ?_ (by omega) (by omega) (full_ap hf _) (fun i a' b' l' hf'=>?_)
   ·rw[Nat.div_lt_iff_lt_mul (by decide)]
    calc n<128^(k+1+1):=hn
     _=128^(k+1)*128:=by rw[Nat.pow_succ]
   ·have e:c+digs (k+1) n-1=c+1+digs k (n / 128)-1:=by simp only[digs,if_neg h1];omega
    rw[←e] at hf' ⊢
    exact hK i a' b' l' hf'
theorem num_spec (n:Int):∃b:ByteArray,F90.s FUEL n=some (dS b)∧b.size=nlen n:=by
 obtain⟨v,hv⟩:∃v:Nat,v=(min (max n 0) 1125899906842624).toNat:=⟨_,rfl⟩
 have hn:mini (maxi n 0) 1125899906842624=(v:Int):=by
  unfold mini maxi
  rw[hv]
  split<;>split<;>omega
 have hlt:v<128^(8+1):=by
  have:v≤1125899906842624:=by omega
  have h2:(128:Nat)^(8+1)=9223372036854775808:=by decide
  omega
 have hl:=digs_le 8 v
 have hp:=digs_pos 8 v
 unfold F90.s
 rw[hn]
 refine num_loop (Post:=fun o=>∃b:ByteArray,o=some (dS b)∧b.size=nlen n) _ 8 FUEL v 0 0 false [] hlt (by simp[FUEL]) (by omega) (by simp[Full]) (fun i a' b' l' hf'=>?_)
 refine pct (Post:=fun o=>∃b:ByteArray,o=some (dS b)∧b.size=nlen n) (by simp;omega) ⟨_,rfl,?_⟩
 have h9:=full_len (full_ap hf' [D.int .u8 (cv .u8 i)])
 simp only[List.length_singleton] at h9
 rw[byte_size,h9]
 simp only[nlen,←hv]
 omega
def tlen (k:Nat):Nat:=nlen (k:Int)+k
theorem cat_some {a b:ByteArray} (h:a.size+b.size≤1000000000):cat a b=some (dS (a++b)):=by
 unfold cat
 rw[if_pos (by unfold maxInt;omega)]
theorem text_spec (s:ByteArray) (hs:s.size≤100000000):∃b:ByteArray,F57.s FUEL s=some (dS b)∧b.size=tlen s.size:=by
 obtain⟨b,h1,h2⟩:=num_spec (nI s.size)
 have:=nlen_le (nI s.size)
 refine⟨b++s,?_,?_⟩
 ·unfold F57.s
  exact bdS h1 (bdS (cat_some (a:=b) (b:=s) (by omega)) rfl)
 ·rw[ByteArray.size_append,h2];rfl
theorem part_put {p:D} {e:Ev} (hn:e.name.size≤100000) (hs:e.sum.length=32) (h:p∈partsL e) :
  ∃b:ByteArray,(bif isT 246 p then (F286.s FUEL (payload p).s) else (bif isT 249 p then (F288.s FUEL (payload p).i) else (bif isT 250 p then (F290.s FUEL (payload p)) else none)))=some (dS b)∧b.size≤e.name.size+41:=by
 have hnum:∀n:Int,∃b:ByteArray,F288.s FUEL n=some (dS b)∧b.size≤e.name.size+41:=by
  intro n
  obtain⟨b,h1,h2⟩:=num_spec n
  have:=nlen_le n
  exact⟨b,by unfold F288.s;exact bdS h1 rfl,by omega⟩
 have htext:∃b:ByteArray,F286.s FUEL e.name=some (dS b)∧b.size≤e.name.size+41:=by
  obtain⟨b,h1,h2⟩:=text_spec e.name (by omega)
  have:=nlen_le (e.name.size:Int)
  exact⟨b,by unfold F286.s;exact bdS h1 rfl,by rw[h2];unfold tlen;omega⟩
 have hsum:∃b:ByteArray,F290.s FUEL (sumD e.sum)=some (dS b)∧b.size≤e.name.size+41:=by
  have hp:(sumD e.sum).parts.length=32:=by simp[sumD,hs]
  refine⟨ofBytes (((sumD e.sum).parts.drop 0).take 32),?_,?_⟩
  ·unfold F290.s F91.s
   exact bdS (ct (by rw[hp];rfl) (ct (by rw[hp];rfl) rfl)) rfl
  ·rw[byte_size];simp;omega
 have h1:∀n:Int,∃b:ByteArray,(bif isT 246 (.iface 249 (di n)) then (F286.s FUEL (payload (.iface 249 (di n))).s) else (bif isT 249 (.iface 249 (di n)) then (F288.s FUEL (payload (.iface 249 (di n))).i) else (bif isT 250 (.iface 249 (di n)) then (F290.s FUEL (payload (.iface 249 (di n)))) else none)))=some (dS b)∧b.size≤e.name.size+41:=fun n=>hnum n
 have h2:∃b:ByteArray,(bif isT 246 (.iface 246 (dS e.name)) then (F286.s FUEL (payload (.iface 246 (dS e.name))).s) else (bif isT 249 (.iface 246 (dS e.name)) then (F288.s FUEL (payload (.iface 246 (dS e.name))).i) else (bif isT 250 (.iface 246 (dS e.name)) then (F290.s FUEL (payload (.iface 246 (dS e.name)))) else none)))=some (dS b)∧b.size≤e.name.size+41:=htext
 have h3:∃b:ByteArray,(bif isT 246 (.iface 250 (sumD e.sum)) then (F286.s FUEL (payload (.iface 250 (sumD e.sum))).s) else (bif isT 249 (.iface 250 (sumD e.sum)) then (F288.s FUEL (payload (.iface 250 (sumD e.sum))).i) else (bif isT 250 (.iface 250 (sumD e.sum)) then (F290.s FUEL (payload (.iface 250 (sumD e.sum)))) else none)))=some (dS b)∧b.size≤e.name.size+41:=hsum
 unfold partsL at h
 (repeat' split at h)<;>simp at h
 all_goals (rcases h with rfl | rfl | rfl | rfl<;>first | exact h1 _ | exact h2 | exact h3)<;>skip
 all_goals first | (rcases h with rfl | rfl<;>first | exact h1 _ | exact h2 | exact h3) | (subst h;exact h1 _)
theorem parts_len (e:Ev):(partsL e).length≤4:=by
 unfold partsL
 repeat' split
 all_goals simp
theorem put_spec (e:Ev) (hn:e.name.size≤100000) (hs:e.sum.length=32):F55.s FUEL e.enc=some (.tup [dS (bs []),db false])∨∃b:ByteArray,b.size≤4*e.name.size+200∧F55.s FUEL e.enc=some (.tup [dS b,db true]):=by
 unfold F55.s
 by_cases hv:evB e=true
 ·right
  obtain⟨b0,h1,h2⟩:=num_spec e.kind
  have h3:=nlen_le e.kind
  have hP:=parts_len e
  suffices h:∀Post:Option D→Prop,(∀b:ByteArray,b.size≤4*e.name.size+200→Post (some (.tup [dS b,db true])))→Post (goS (F55.st5 FUEL) FUEL ⟨dS b0,dl (!(partsL e).isEmpty) (partsL e),nI (partsL e).length,0,e.enc⟩ (fun x=>match x with | .e0 d4 d8=>(some (D.tup [d4,(db true)])))) by
   obtain⟨b,k1,k2⟩:=h (fun o=>∃b:ByteArray,b.size≤4*e.name.size+200∧o=some (.tup [dS b,db true])) fun b hb=>⟨b,hb,rfl⟩
   exact⟨b,k1,bdS (valid_spec e (by omega) hs) (cf (by show (!(evB e))=false;rw[hv];rfl) (bdS h1 (bdS (parts_spec e) k2)))⟩
  intro Post hPost
  refine goS_rule (fun t:F55.S5=>∃(k:Nat) (b:ByteArray),t=⟨dS b,dl (!(partsL e).isEmpty) (partsL e),nI (partsL e).length,(k:Int),e.enc⟩∧k≤(partsL e).length∧b.size≤9+k*(e.name.size+41)) (fun t=>(partsL e).length-t.i7.toNat) Post ?_ _ _ ⟨0,b0,rfl,by omega,by omega⟩ (by simp[FUEL];omega)
  rintro _ rec ⟨k,b,rfl,hk,hb⟩ hrec
  simp only[F55.st5]
  have hkm:k*(e.name.size+41)≤4*(e.name.size+41):=Nat.mul_le_mul_right _ (by omega)
  by_cases h5:k<(partsL e).length
  ·have hadd:ad .i64 (k:Int) 1=((k+1:Nat):Int):=by rw[ad64 (by omega) (by omega)];rfl
   obtain⟨c,c1,c2⟩:=part_put hn hs (List.getElem_mem h5)
   refine pct (by simp;omega) (pct (by simp;omega) ?_)
   simp only[elems_slice,Int.toNat_natCast,ix_eq h5]
   refine pbd c1 (pbd (cat_some (a:=b) (b:=c) (by omega)) ?_)
   rw[hadd]
   refine hrec _ ⟨k+1,b++c,rfl,by omega,?_⟩ (by simp;omega)
   rw[ByteArray.size_append,Nat.add_mul]
   omega
  ·exact pcf (by simp;omega) (hPost b (by omega))
 ·left
  exact bdS (valid_spec e (by omega) hs) (ct (by show (!(evB e))=true;simpa using hv) rfl)
end Go.AM.SY
