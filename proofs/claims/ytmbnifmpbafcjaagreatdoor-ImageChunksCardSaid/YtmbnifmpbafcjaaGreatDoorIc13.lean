/- Part 13 of the proof: the abstract machine, what the functions compute, and plain laws over that. -/
import Derived.Test.YtmbnifmpbafcjaaGreatDoorIc12
import Derived.KernelRfl
set_option linter.all false
set_option linter.unusedSimpArgs false
set_option linter.unusedVariables false
set_option linter.unusedSectionVars false
namespace Go.AM.SY
open Go Go.AM
def item (lg:Int) (o:D) (b:ByteArray):D:=da [di lg,o,dS b]
def chunksOf (room:Nat) (o:D) (lg:Int) (s:ByteArray):List D:=
 if h:s.size=0∨room=0 then [] else item lg o (s.extract 0 (min room s.size))::chunksOf room o (lg+1) (s.extract (min room s.size) s.size)
termination_by s.size
decreasing_by simp[ByteArray.size_extract];omega
structure RowIs (n m:Nat) (l L:List D):Prop where
 eq:(l.drop n).take m=L
 len:m=L.length
theorem RowIs.ap {n m:Nat} {l L:List D} (h:RowIs n m l L) (x:D):RowIs 0 (m+1) (ap ((l.drop n).take m) [x]) (L++[x]):=by
 refine⟨?_,by simp[h.len]⟩
 rw[h.eq,Go.AM.ap,List.drop_zero,List.take_of_length_le (by simp[h.len])]
theorem chunk_loop {S X:Type} {st:S→(S→Option D)→(X→Option D)→Option D} {mk:Int→ByteArray→Nat→Nat→Bool→List D→S} {ex:Int→ByteArray→Nat→Nat→Bool→List D→X} {room:Nat} {o:D} {lg:Int}
  (hst:∀i s n m b l rec K,st (mk i s n m b l) rec K=(cond (gtI (nI s.size) 0) (cond (true&&(leI 0 (mini (room:Int) (nI s.size)))&&(leI (mini (room:Int) (nI s.size)) (nI s.size))&&(leI (nI s.size) (nI s.size))) (cond (mx (m+1)) (cond ((leI 0 (mini (room:Int) (nI s.size)))&&(leI (mini (room:Int) (nI s.size)) (nI s.size))&&(leI (nI s.size) (nI s.size))&&(leI (nI s.size) (nI s.size)))
   (rec (mk (ad .i64 i 1) (s.extract (mini (room:Int) (nI s.size)).toNat s.size) 0 (m+1) (b||true) (ap ((l.drop n).take m) [(da [(di (ad .i64 lg i)),o,(dS (s.extract 0 (mini (room:Int) (nI s.size)).toNat))])]))) none) none) none) (K (ex i s n m b l))))
  (hroom:8≤room) (hlg:0≤lg∧lg≤9007199254740992) {Post:Option D→Prop} (K:X→Option D):∀(fuel N:Nat) (i:Nat) (s:ByteArray) (n m:Nat) (b:Bool) (l L:List D),s.size≤8*fuel→fuel+1≤N→i+fuel≤1000000000→m+fuel≤1000000000→RowIs n m l L →
   (∀(i':Int) (s':ByteArray) (n' m':Nat) (b':Bool) (l':List D),RowIs n' m' l' (L++chunksOf room o (lg+i) s)→Post (K (ex i' s' n' m' b' l')))→Post (goS st N (mk (i:Int) s n m b l) K):=by
 have hmini:∀s:ByteArray,mini (room:Int) (nI s.size)=((min room s.size:Nat):Int):=by
  intro s
  show (if (s.size:Int)<(room:Int) then (s.size:Int) else (room:Int))=_
  split<;>omega
 intro fuel
 induction fuel with
 | zero=>
  intro N i s n m b l L hs hN hi hm hr hK
  obtain⟨N,rfl⟩:∃N',N=N'+1:=⟨N-1,by omega⟩
  simp only[goS]
  rw[hst]
  have hs0:s.size=0:=by omega
  refine pcf (by simp[hs0]) ?_
  have:chunksOf room o (lg+i) s=[]:=by rw[chunksOf,dif_pos (.inl hs0)]
  rw[this,List.append_nil] at hK
  exact hK _ _ _ _ _ _ hr
 | succ fuel ih=>
  intro N i s n m b l L hs hN hi hm hr hK
  obtain⟨N,rfl⟩:∃N',N=N'+1:=⟨N-1,by omega⟩
  simp only[goS]
  rw[hst]
  by_cases h0:s.size=0
  ·refine pcf (by simp[h0]) ?_
   have:chunksOf room o (lg+i) s=[]:=by rw[chunksOf,dif_pos (.inl h0)]
   rw[this,List.append_nil] at hK
   exact hK _ _ _ _ _ _ hr
  ·rw[hmini]
   have hmin:min room s.size≤s.size:=Nat.min_le_right _ _
   refine pct (by simp;omega) (pct (by simp;omega) (pct (by simp;omega) (pct (by simp;omega) ?_)))
   rw[ad64 (by omega) (by omega),ad64 (by omega) (by omega),Int.toNat_natCast]
   have hr':=hr.ap (da [(di (lg+(i:Int))),o,(dS (s.extract 0 (min room s.size)))])
   refine ih N (i+1) _ 0 (m+1) _ _ _ ?_ (by omega) (by omega) (by omega) hr' (fun i' s' n' m' b' l' h=>hK i' s' n' m' b' l' ?_)
   ·rw[ByteArray.size_extract];omega
   ·have e:chunksOf room o (lg+i) s=item (lg+i) o (s.extract 0 (min room s.size))::chunksOf room o (lg+i+1) (s.extract (min room s.size) s.size):=by
     rw[chunksOf,dif_neg (by omega)]
    rw[e]
    rw[List.append_assoc] at h
    have e2:lg+((i+1:Nat):Int)=lg+(i:Int)+1:=by omega
    rw[e2] at h
    exact h
def evBytes (e:Ev):ByteArray:=((F55.s FUEL e.enc).getD (.tup [])).at 0 |>.s
def lsz (l:List Ev):Nat:=(l.map fun e=>tlen (evBytes e).size).sum
theorem lsz_succ {l:List Ev} {k:Nat} (h:k<l.length):lsz (l.take (k+1))=lsz (l.take k)+tlen (evBytes l[k]).size:=by
 unfold lsz
 rw[List.take_succ_eq_append_getElem h]
 simp only[List.map_append,List.sum_append,List.map_cons,List.map_nil,List.sum_cons,List.sum_nil,Nat.add_zero]
theorem lsz_append (a b:List Ev):lsz (a++b)=lsz a+lsz b:=by simp[lsz]
structure EvSm (e:Ev):Prop where
 name:e.name.size≤1000
 sum:e.sum.length=32
theorem evBytes_le {e:Ev} (h:EvSm e):(evBytes e).size≤4200:=by
 unfold evBytes
 have:=h.name
 rcases put_spec e (by omega) h.sum with h1 | ⟨b,h1,h2⟩
 ·rw[h1];simp
 ·rw[h2];simpa using (by omega:b.size≤4200)
theorem lsz_le:∀(l:List Ev),(∀e∈l,EvSm e)→lsz l≤l.length*4209
 | [],_=>by simp[lsz]
 | e::l,h=>by
  have h1:=lsz_le l fun x hx=>h x (by simp[hx])
  have h2:=evBytes_le (h e (by simp))
  have h3:=tlen_le (evBytes e).size
  simp only[lsz,List.map_cons,List.sum_cons,List.length_cons,Nat.add_mul] at h1 ⊢
  omega
theorem lsz_take_le (l:List Ev) (k:Nat):lsz (l.take k)≤lsz l:=by
 have:lsz l=lsz (l.take k)+lsz (l.drop k):=by rw[←lsz_append,List.take_append_drop]
 omega
def filesOf (room:Nat) (l:List Fl):List D:=(l.map fun f=>chunksOf room (di f.id) (4096*f.id) f.data).flatten
def itemsOf (room:Nat) (s:St) (hd lg:ByteArray):List D:=chunksOf room (di 0) 0 hd++chunksOf room (di 0) 1000 lg++filesOf room s.files
theorem filesOf_succ {room:Nat} {l:List Fl} {k:Nat} (h:k<l.length):filesOf room (l.take (k+1))=filesOf room (l.take k)++chunksOf room (di l[k].id) (4096*l[k].id) l[k].data:=by
 unfold filesOf
 rw[List.take_succ_eq_append_getElem h]
 simp only[List.map_append,List.flatten_append,List.map_cons,List.map_nil,List.flatten_cons,List.flatten_nil,List.append_nil]
theorem chunksOf_len (room:Nat) (hroom:8≤room):∀(n:Nat) (s:ByteArray) (o:D) (lg:Int),s.size≤n→(chunksOf room o lg s).length≤s.size:=by
 intro n
 induction n with
 | zero=>intro s o lg h;have h0:s.size=0:=by omega
         rw[chunksOf,dif_pos (.inl h0)];simp
 | succ n ih=>
  intro s o lg h
  rw[chunksOf]
  split
  ·simp
  ·rename_i h0
   have:=ih (s.extract (min room s.size) s.size) o (lg+1) (by rw[ByteArray.size_extract];omega)
   rw[ByteArray.size_extract] at this
   simp only[List.length_cons]
   omega
def putK:F17.X6→Option D:=fun x=>match x with | .e0 d22 i23 d27 i29 d30 n31 n32 b33 l34=>(some (D.tup [(dl false []),(db false)])) | .e1 d22 i23 b24 l25 b26 d30 n31 n32 b33 l34=>(bd (F60.s FUEL d30 (nI d22.elems.length)) fun r52=>(goS (F17.st110_1 FUEL) FUEL ⟨0,d30,n31,n32,b33,l34,r52,i23,0,0,0,0,false,[]⟩ fun x=>match x with | .e0 d54 n55 n56 b57 l58 d59 i60 i61 i62 n63 n64 b65 l66=>(cond (true&&((bif b57 then (decide (0<n56)) else true)&&(mx n56))) (cond (((Nat.beq n63 n63)&&(Nat.beq n64 n64))&&true) (cond (((Nat.beq n63 n63)&&(Nat.beq n64 n64))&&true) (goS (F17.st110_1_9_17 FUEL) FUEL ⟨0,d54,n55,n56,d59,i60,i61,i62,n63,n64,n63,n64,(ofBytes ((l58.drop n55).take n56)),i23,0,1000,n63,n64,b65,l66⟩ fun x=>match x with | .e0 d68 n69 n70 d71 i72 i73 i74 n75 n76 n77 n78 s79 i80 i81 i82 n83 n84 b85 l86=>(goS (F17.st16 FUEL) FUEL ⟨i23,b24,l25,b26,(d68.at 0),(nI (d68.at 0).elems.length),0,d68,n69,n70,d71,i72,i73,i74,n75,n76,n83,n84,s79,i80,i81,i82,n83,n84,b85,l86⟩ fun x=>match x with | .e0 b88 l89 b90 d94 n95 n96 d97 i98 i99 i100 n101 n102 n103 n104 s105 i106 i107 i108 n109 n110 b111 l112=>(cond (gtI (nI n104) 400) (some (D.tup [(dl false []),(db false)])) (some (D.tup [(dl b111 ((l112.drop n103).take n104)),(db true)]))))) none) none) none))) | .e2 d35 i36 d40 i42 d43 n44 n45 b46 l47=>(some (D.tup [(dl false []),(db false)])) | .e3 d35 i36 b37 l38 b39 d43 n44 n45 b46 l47=>(bd (F60.s FUEL d43 (nI d35.elems.length)) fun r138=>(goS (F17.st110_1_8_9 FUEL) FUEL ⟨0,d43,n44,n45,b46,l47,r138,i36,0,0,0,0,false,[]⟩ fun x=>match x with | .e0 d140 n141 n142 b143 l144 d145 i146 i147 i148 n149 n150 b151 l152=>(cond (true&&((bif b143 then (decide (0<n142)) else true)&&(mx n142))) (cond (((Nat.beq n149 n149)&&(Nat.beq n150 n150))&&true) (cond (((Nat.beq n149 n149)&&(Nat.beq n150 n150))&&true) (goS (F17.st110_1_9_17_w2 FUEL) FUEL ⟨0,d140,n141,n142,d145,i146,i147,i148,n149,n150,n149,n150,(ofBytes ((l144.drop n141).take n142)),i36,0,1000,n149,n150,b151,l152⟩ fun x=>match x with | .e0 d154 n155 n156 d157 i158 i159 i160 n161 n162 n163 n164 s165 i166 i167 i168 n169 n170 b171 l172=>(goS (F17.st16_11_0 FUEL) FUEL ⟨i36,b37,l38,b39,(d154.at 0),(nI (d154.at 0).elems.length),0,d154,n155,n156,d157,i158,i159,i160,n161,n162,n169,n170,s165,i166,i167,i168,n169,n170,b171,l172⟩ fun x=>match x with | .e0 b174 l175 b176 d180 n181 n182 d183 i184 i185 i186 n187 n188 n189 n190 s191 i192 i193 i194 n195 n196 b197 l198=>(cond (gtI (nI n190) 400) (some (D.tup [(dl false []),(db false)])) (some (D.tup [(dl b197 ((l198.drop n189).take n190)),(db true)]))))) none) none) none)))
theorem builder_ok {b:Bool} {n:Nat} (h:b=true→0<n) (hn:n≤100000000):(true&&((bif b then (decide (0<n)) else true)&&(mx n)))=true:=by
 cases b with
 | false=>simp;omega
 | true=>have:=h rfl;simp;omega
section
variable {s:St} (hs:StOk s) (nn:Bool) (evs:List Ev) (hev:∀e∈evs,EvSm e) (hel:evs.length≤400) (room:Nat) (hr0:8≤room) (hr1:room≤224)
 {Post:Option D→Prop} (h0:Post (some (.tup [dl false [],db false])))
 (h1:∀(b:Bool) (hd lg:ByteArray),hd.size=Go.AM.SY.hlen s (nI evs.length)→lg.size=lsz evs→(itemsOf room s hd lg).length≤400→Post (some (.tup [dl b (itemsOf room s hd lg),db true])))
include hs hev hel hr0 hr1 h0 h1
theorem tail_A (b24:Bool) (l25:List D) (b26:Bool) (a c:Nat) (b33:Bool) (l34:List D) (hf:Full l34 a c) (hc:c=lsz evs) (hb:b33=true→0<c):Post (putK (.e1 (dl nn (evs.map Ev.enc)) (room:Int) b24 l25 b26 s.enc a c b33 l34)):=by
 obtain⟨hd,x1,x2⟩:=head_spec s hs (nI evs.length)
 have hl1:=hs.len
 have hl2:=fsum_le hs.files
 have hl3:=nlen_le s.last
 have hl4:=nlen_le s.floor
 have hl5:=nlen_le (s.files.length:Int)
 have hl6:=nlen_le (nI evs.length)
 have hmul:s.files.length*6000≤12*6000:=Nat.mul_le_mul_right _ hl1
 have hhd:hd.size≤80000:=by rw[x2];unfold Go.AM.SY.hlen;omega
 have hls:=lsz_le evs hev
 have hmul2:evs.length*4209≤400*4209:=Nat.mul_le_mul_right _ hel
 show Post (bd (F60.s FUEL s.enc (nI (evs.map Ev.enc).length)) _)
 rw[List.length_map]
 refine pbd x1 ?_
 refine chunk_loop (st:=F17.st110_1 FUEL) (mk:=fun i s' n m b l=>⟨i,s.enc,a,c,b33,l34,dS s',(room:Int),0,0,n,m,b,l⟩) (ex:=fun i s' n m b l=>.e0 s.enc a c b33 l34 (dS s') (room:Int) 0 0 n m b l) (o:=di 0) (lg:=0) (fun _ _ _ _ _ _ _ _=>rfl) hr0 (by omega) _ hd.size FUEL 0 hd 0 0 false [] [] (by omega) (by simp only[FUEL];omega) (by omega) (by omega) ⟨rfl,rfl⟩ (fun i1 s1 n1 m1 b1 l1 hw1=>?_)
 have hk1:=chunksOf_len room hr0 _ hd (di 0) (0+((0:Nat):Int)) (Nat.le_refl _)
 have hm1:=hw1.len
 simp only[List.nil_append] at hm1
 refine pct (builder_ok hb (by omega)) (pct (by simp) (pct (by simp) ?_))
 obtain⟨lg,hlg⟩:∃lg,lg=ofBytes ((l34.drop a).take c):=⟨_,rfl⟩
 have hlgs:lg.size=lsz evs:=by rw[hlg,byte_size,full_len hf,hc]
 rw[←hlg]
 refine chunk_loop (st:=F17.st110_1_9_17 FUEL) (mk:=fun i s' n m b l=>⟨i,s.enc,a,c,dS s1,(room:Int),0,0,n1,m1,n1,m1,s',(room:Int),0,1000,n,m,b,l⟩) (ex:=fun i s' n m b l=>.e0 s.enc a c (dS s1) (room:Int) 0 0 n1 m1 n1 m1 s' (room:Int) 0 1000 n m b l) (o:=di 0) (lg:=1000) (fun _ _ _ _ _ _ _ _=>rfl) hr0 (by omega) _ ((lg.size+7) / 8) FUEL 0 lg n1 m1 b1 l1 _ (by omega) (by simp only[FUEL];omega) (by omega) (by omega) hw1 (fun i2 s2 n2 m2 b2 l2 hw2=>?_)
 have hk2:=chunksOf_len room hr0 _ lg (di 0) (1000+((0:Nat):Int)) (Nat.le_refl _)
 have hm2:=hw2.len
 simp only[List.nil_append,List.length_append] at hm2
 have e0:s.enc.at 0=dl s.nn (s.files.map Fl.enc):=rfl
 show Post (goS (F17.st16 FUEL) FUEL ⟨(room:Int),b24,l25,b26,(s.enc.at 0),(nI (s.enc.at 0).elems.length),0,s.enc,a,c,dS s1,(room:Int),0,0,n1,m1,n2,m2,s2,(room:Int),0,1000,n2,m2,b2,l2⟩ _)
 rw[e0]
 simp only[elems_slice,List.length_map]
 obtain⟨L2,hL2⟩:∃L2,L2=[]++chunksOf room (di 0) (0+((0:Nat):Int)) hd++chunksOf room (di 0) (1000+((0:Nat):Int)) lg:=⟨_,rfl⟩
 rw[←hL2] at hw2
 have hfl:∀k,(filesOf room (s.files.take k)).length≤8000:=by
  intro k
  have:∀(l:List Fl),(∀f∈l,FlOk f s.last)→(filesOf room l).length≤l.length*600:=by
   intro l
   induction l with
   | nil=>intro _;simp[filesOf]
   | cons f l ih=>
    intro h
    have i1:=ih fun x hx=>h x (by simp[hx])
    have i2:=chunksOf_len room hr0 _ f.data (di f.id) (4096*f.id) (Nat.le_refl _)
    have i3:=(h f (by simp)).data
    simp only[filesOf,List.map_cons,List.flatten_cons,List.length_append,List.length_cons,Nat.add_mul] at i1 ⊢
    omega
  have h1:=this (s.files.take k) fun f hf=>hs.files f (List.mem_of_mem_take hf)
  have h2:(s.files.take k).length≤12:=by simp;omega
  have h3:(s.files.take k).length*600≤12*600:=Nat.mul_le_mul_right _ h2
  omega
 refine goS_rule (fun t:F17.S16=>∃(k n m:Nat) (b:Bool) (l:List D),t=⟨(room:Int),b24,l25,b26,dl s.nn (s.files.map Fl.enc),nI s.files.length,(k:Int),s.enc,a,c,dS s1,(room:Int),0,0,n1,m1,n,m,s2,(room:Int),0,1000,n2,m2,b,l⟩∧k≤s.files.length∧RowIs n m l (L2++filesOf room (s.files.take k))) (fun t=>s.files.length-t.i93.toNat) Post ?_ _ _ ⟨0,n2,m2,b2,l2,rfl,by omega,by simpa[filesOf] using hw2⟩ (by simp[FUEL];omega)
 rintro _ rec ⟨k,n,m,b,l,rfl,hk,hw⟩ hrec
 simp only[F17.st16]
 have hmL:=hw.len
 have hfk:=hfl k
 rw[List.length_append,hL2] at hmL
 simp only[List.nil_append,List.length_append] at hmL
 by_cases hkl:k<s.files.length
 ·have hadd:ad .i64 (k:Int) 1=((k+1:Nat):Int):=by rw[ad64 (by omega) (by omega)];rfl
  have hfo:=hs.files _ (List.getElem_mem hkl)
  obtain⟨f,hfe⟩:∃f,f=s.files[k]:=⟨_,rfl⟩
  have hlast:=hs.last1
  have hi0:=hfo.id0
  have hi1:=hfo.id1
  have hda:=hfo.data
  refine pct (by simp;omega) (pct (by simp;omega) ?_)
  simp only[elems_slice,Int.toNat_natCast,ix_map hkl]
  rw[←hfe] at hi0 hi1 hda ⊢
  rw[show f.enc.at 2=dS f.data from rfl,show f.enc.at 0=di f.id from rfl,i_int,ml64 (by omega) (by omega)]
  refine chunk_loop (st:=F17.st110_1_10_25 FUEL) (mk:=fun i s' n m b l=>⟨i,s.enc,a,c,dS s1,(room:Int),0,0,n1,m1,n,m,s2,(room:Int),0,1000,n2,m2,f.enc,dS s',(room:Int),di f.id,4096*f.id,b,l⟩) (ex:=fun i s' n m b l=>.e0 s.enc a c (dS s1) (room:Int) 0 0 n1 m1 n m s2 (room:Int) 0 1000 n2 m2 f.enc (dS s') (room:Int) (di f.id) (4096*f.id) b l) (o:=di f.id) (lg:=4096*f.id) (fun _ _ _ _ _ _ _ _=>rfl) hr0 (by omega) _ f.data.size FUEL 0 f.data n m b l _ (by omega) (by simp only[FUEL];omega) (by omega) (by omega) hw (fun i3 s3 n3 m3 b3 l3 hw3=>?_)
  refine hrec _ ⟨k+1,n3,m3,b3,l3,?_,by omega,?_⟩ ?_
  ·rw[hadd]
  ·rw[filesOf_succ hkl,←hfe,←List.append_assoc]
   have e4:4096*f.id+((0:Nat):Int)=4096*f.id:=by omega
   rw[e4] at hw3
   exact hw3
  ·rw[hadd];simp;omega
 ·refine pcf (by simp;omega) ?_
  have hke:k=s.files.length:=by omega
  subst hke
  rw[List.take_length,hL2] at hw
  have e5:(0:Int)+((0:Nat):Int)=0:=rfl
  have e6:(1000:Int)+((0:Nat):Int)=1000:=rfl
  rw[e5,e6,List.nil_append] at hw
  by_cases h4:400<m
  ·exact pct (by simp;omega) h0
  ·refine pcf (by simp;omega) ?_
   rw[hw.eq]
   exact h1 b hd lg x2 hlgs (by have:=hw.len;unfold itemsOf;omega)
theorem tail_B (b24:Bool) (l25:List D) (b26:Bool) (a c:Nat) (b33:Bool) (l34:List D) (hf:Full l34 a c) (hc:c=lsz evs) (hb:b33=true→0<c):Post (putK (.e3 (dl nn (evs.map Ev.enc)) (room:Int) b24 l25 b26 s.enc a c b33 l34)):=by
 obtain⟨hd,x1,x2⟩:=head_spec s hs (nI evs.length)
 have hl1:=hs.len
 have hl2:=fsum_le hs.files
 have hl3:=nlen_le s.last
 have hl4:=nlen_le s.floor
 have hl5:=nlen_le (s.files.length:Int)
 have hl6:=nlen_le (nI evs.length)
 have hmul:s.files.length*6000≤12*6000:=Nat.mul_le_mul_right _ hl1
 have hhd:hd.size≤80000:=by rw[x2];unfold Go.AM.SY.hlen;omega
 have hls:=lsz_le evs hev
 have hmul2:evs.length*4209≤400*4209:=Nat.mul_le_mul_right _ hel
 show Post (bd (F60.s FUEL s.enc (nI (evs.map Ev.enc).length)) _)
 rw[List.length_map]
 refine pbd x1 ?_
 refine chunk_loop (st:=F17.st110_1_8_9 FUEL) (mk:=fun i s' n m b l=>⟨i,s.enc,a,c,b33,l34,dS s',(room:Int),0,0,n,m,b,l⟩) (ex:=fun i s' n m b l=>.e0 s.enc a c b33 l34 (dS s') (room:Int) 0 0 n m b l) (o:=di 0) (lg:=0) (fun _ _ _ _ _ _ _ _=>rfl) hr0 (by omega) _ hd.size FUEL 0 hd 0 0 false [] [] (by omega) (by simp only[FUEL];omega) (by omega) (by omega) ⟨rfl,rfl⟩ (fun i1 s1 n1 m1 b1 l1 hw1=>?_)
 have hk1:=chunksOf_len room hr0 _ hd (di 0) (0+((0:Nat):Int)) (Nat.le_refl _)
 have hm1:=hw1.len
 simp only[List.nil_append] at hm1
 refine pct (builder_ok hb (by omega)) (pct (by simp) (pct (by simp) ?_))
 obtain⟨lg,hlg⟩:∃lg,lg=ofBytes ((l34.drop a).take c):=⟨_,rfl⟩
 have hlgs:lg.size=lsz evs:=by rw[hlg,byte_size,full_len hf,hc]
 rw[←hlg]
 refine chunk_loop (st:=F17.st110_1_9_17_w2 FUEL) (mk:=fun i s' n m b l=>⟨i,s.enc,a,c,dS s1,(room:Int),0,0,n1,m1,n1,m1,s',(room:Int),0,1000,n,m,b,l⟩) (ex:=fun i s' n m b l=>.e0 s.enc a c (dS s1) (room:Int) 0 0 n1 m1 n1 m1 s' (room:Int) 0 1000 n m b l) (o:=di 0) (lg:=1000) (fun _ _ _ _ _ _ _ _=>rfl) hr0 (by omega) _ ((lg.size+7) / 8) FUEL 0 lg n1 m1 b1 l1 _ (by omega) (by simp only[FUEL];omega) (by omega) (by omega) hw1 (fun i2 s2 n2 m2 b2 l2 hw2=>?_)
 have hk2:=chunksOf_len room hr0 _ lg (di 0) (1000+((0:Nat):Int)) (Nat.le_refl _)
 have hm2:=hw2.len
 simp only[List.nil_append,List.length_append] at hm2
 have e0:s.enc.at 0=dl s.nn (s.files.map Fl.enc):=rfl
 show Post (goS (F17.st16_11_0 FUEL) FUEL ⟨(room:Int),b24,l25,b26,(s.enc.at 0),(nI (s.enc.at 0).elems.length),0,s.enc,a,c,dS s1,(room:Int),0,0,n1,m1,n2,m2,s2,(room:Int),0,1000,n2,m2,b2,l2⟩ _)
 rw[e0]
 simp only[elems_slice,List.length_map]
 obtain⟨L2,hL2⟩:∃L2,L2=[]++chunksOf room (di 0) (0+((0:Nat):Int)) hd++chunksOf room (di 0) (1000+((0:Nat):Int)) lg:=⟨_,rfl⟩
 rw[←hL2] at hw2
 have hfl:∀k,(filesOf room (s.files.take k)).length≤8000:=by
  intro k
  have:∀(l:List Fl),(∀f∈l,FlOk f s.last)→(filesOf room l).length≤l.length*600:=by
   intro l
   induction l with
   | nil=>intro _;simp[filesOf]
   | cons f l ih=>
    intro h
    have i1:=ih fun x hx=>h x (by simp[hx])
    have i2:=chunksOf_len room hr0 _ f.data (di f.id) (4096*f.id) (Nat.le_refl _)
    have i3:=(h f (by simp)).data
    simp only[filesOf,List.map_cons,List.flatten_cons,List.length_append,List.length_cons,Nat.add_mul] at i1 ⊢
    omega
  have h1:=this (s.files.take k) fun f hf=>hs.files f (List.mem_of_mem_take hf)
  have h2:(s.files.take k).length≤12:=by simp;omega
  have h3:(s.files.take k).length*600≤12*600:=Nat.mul_le_mul_right _ h2
  omega
 refine goS_rule (fun t:F17.S16_11_0=>∃(k n m:Nat) (b:Bool) (l:List D),t=⟨(room:Int),b24,l25,b26,dl s.nn (s.files.map Fl.enc),nI s.files.length,(k:Int),s.enc,a,c,dS s1,(room:Int),0,0,n1,m1,n,m,s2,(room:Int),0,1000,n2,m2,b,l⟩∧k≤s.files.length∧RowIs n m l (L2++filesOf room (s.files.take k))) (fun t=>s.files.length-t.i179.toNat) Post ?_ _ _ ⟨0,n2,m2,b2,l2,rfl,by omega,by simpa[filesOf] using hw2⟩ (by simp[FUEL];omega)
 rintro _ rec ⟨k,n,m,b,l,rfl,hk,hw⟩ hrec
 simp only[F17.st16_11_0]
 have hmL:=hw.len
 have hfk:=hfl k
 rw[List.length_append,hL2] at hmL
 simp only[List.nil_append,List.length_append] at hmL
 by_cases hkl:k<s.files.length
 ·have hadd:ad .i64 (k:Int) 1=((k+1:Nat):Int):=by rw[ad64 (by omega) (by omega)];rfl
  have hfo:=hs.files _ (List.getElem_mem hkl)
  obtain⟨f,hfe⟩:∃f,f=s.files[k]:=⟨_,rfl⟩
  have hlast:=hs.last1
  have hi0:=hfo.id0
  have hi1:=hfo.id1
  have hda:=hfo.data
  refine pct (by simp;omega) (pct (by simp;omega) ?_)
  simp only[elems_slice,Int.toNat_natCast,ix_map hkl]
  rw[←hfe] at hi0 hi1 hda ⊢
  rw[show f.enc.at 2=dS f.data from rfl,show f.enc.at 0=di f.id from rfl,i_int,ml64 (by omega) (by omega)]
  refine chunk_loop (st:=F17.st110_1_10_25_w2 FUEL) (mk:=fun i s' n m b l=>⟨i,s.enc,a,c,dS s1,(room:Int),0,0,n1,m1,n,m,s2,(room:Int),0,1000,n2,m2,f.enc,dS s',(room:Int),di f.id,4096*f.id,b,l⟩) (ex:=fun i s' n m b l=>.e0 s.enc a c (dS s1) (room:Int) 0 0 n1 m1 n m s2 (room:Int) 0 1000 n2 m2 f.enc (dS s') (room:Int) (di f.id) (4096*f.id) b l) (o:=di f.id) (lg:=4096*f.id) (fun _ _ _ _ _ _ _ _=>rfl) hr0 (by omega) _ f.data.size FUEL 0 f.data n m b l _ (by omega) (by simp only[FUEL];omega) (by omega) (by omega) hw (fun i3 s3 n3 m3 b3 l3 hw3=>?_)
  refine hrec _ ⟨k+1,n3,m3,b3,l3,?_,by omega,?_⟩ ?_
  ·rw[hadd]
  ·rw[filesOf_succ hkl,←hfe,←List.append_assoc]
   have e4:4096*f.id+((0:Nat):Int)=4096*f.id:=by omega
   rw[e4] at hw3
   exact hw3
  ·rw[hadd];simp;omega
 ·refine pcf (by simp;omega) ?_
  have hke:k=s.files.length:=by omega
  subst hke
  rw[List.take_length,hL2] at hw
  have e5:(0:Int)+((0:Nat):Int)=0:=rfl
  have e6:(1000:Int)+((0:Nat):Int)=1000:=rfl
  rw[e5,e6,List.nil_append] at hw
  by_cases h4:400<m
  ·exact pct (by simp;omega) h0
  ·refine pcf (by simp;omega) ?_
   rw[hw.eq]
   exact h1 b hd lg x2 hlgs (by have:=hw.len;unfold itemsOf;omega)
end
end Go.AM.SY
namespace Go.AM.SY
open Go Go.AM
section
variable {s:St} (hs:StOk s) (nn:Bool) (evs:List Ev) (hev:∀e∈evs,EvSm e) (hel:evs.length≤400) (room:Nat) (hr0:8≤room) (hr1:room≤224)
 {Post:Option D→Prop} (h0:Post (some (.tup [dl false [],db false])))
 (h1:∀(b:Bool) (hd lg:ByteArray),hd.size=Go.AM.SY.hlen s (nI evs.length)→lg.size=lsz evs→(itemsOf room s hd lg).length≤400→Post (some (.tup [dl b (itemsOf room s hd lg),db true])))
include hs hev hel hr0 hr1 h0 h1
theorem put_evs:Post (goS (F17.st6 FUEL) FUEL (.s0 (dl nn (evs.map Ev.enc)) (room:Int) false [] false (dl nn (evs.map Ev.enc)) (nI evs.length) 0 s.enc 0 0 false []) putK):=by
 have hls:=lsz_le evs hev
 have hmul2:evs.length*4209≤400*4209:=Nat.mul_le_mul_right _ hel
 refine goS_rule (fun t:F17.S6=>(t = .s0 (dl nn (evs.map Ev.enc)) (room:Int) false [] false (dl nn (evs.map Ev.enc)) (nI evs.length) 0 s.enc 0 0 false []) ∨
  ∃(k a:Nat) (b:Bool) (l:List D),t = .s1 (dl nn (evs.map Ev.enc)) (room:Int) false [] false (dl nn (evs.map Ev.enc)) (nI evs.length) (k:Int) s.enc a (lsz (evs.take k)) b l∧1≤k∧k≤evs.length∧Full l a (lsz (evs.take k))∧0<lsz (evs.take k))
  (fun t=>match t with | .s0 ..=>evs.length+1 | .s1 _ _ _ _ _ _ _ i _ _ _ _ _=>evs.length-i.toNat) Post ?_ _ _ (.inl rfl) (by simp[FUEL];omega)
 have one:∀(k:Nat) (h:k<evs.length),(∃b,F55.s FUEL evs[k].enc=some (.tup [dS b,db false]))∨∃t,F55.s FUEL evs[k].enc=some (.tup [dS (evBytes evs[k]),db true])∧F57.s FUEL (evBytes evs[k])=some (dS t)∧t.size=tlen (evBytes evs[k]).size:=by
  intro k h
  have he:=hev _ (List.getElem_mem h)
  have hen:=he.name
  rcases put_spec evs[k] (by omega) he.sum with p1 | ⟨b,p1,p2⟩
  ·exact .inl ⟨_,p1⟩
  ·have hb:evBytes evs[k]=b:=by unfold evBytes;rw[p2];rfl
   obtain⟨t,t1,t2⟩:=text_spec (evBytes evs[k]) (by have:=evBytes_le he;omega)
   exact .inr ⟨t,by rw[hb];exact p2,t1,t2⟩
 rintro _ rec (rfl | ⟨k,a,b,l,rfl,hk1,hk,hf,hpos⟩) hrec
 ·simp only[F17.st6]
  by_cases h5:0<evs.length
  ·refine pct (by simp;omega) (pct (by simp;omega) ?_)
   simp only[elems_slice,show (0:Int).toNat=0 from rfl,ix_map h5]
   rcases one 0 h5 with ⟨b,p⟩ | ⟨t,p1,p2,p3⟩
   ·exact pbd p (pct rfl h0)
   ·have ht:=tlen_le (evBytes evs[0]).size
    have hev0:=evBytes_le (hev _ (List.getElem_mem h5))
    refine pbd p1 (pcf rfl (pbd (x:=dS t) p2 (pct (by simp[byte_len];omega) ?_)))
    have hL:lsz (evs.take 1)=t.size:=by rw[lsz_succ h5,p3];simp[lsz]
    have hF:=full_ap (show Full [] 0 0 by simp[Full]) (bytesOf t)
    rw[byte_len] at hF
    have ha1:ad .i64 (0:Int) 1=((1:Nat):Int):=by rw[ad64 (by omega) (by omega)];rfl
    refine hrec _ (.inr ⟨1,0,false||!(bytesOf (dS t).s).isEmpty,ap ((([]:List D).drop 0).take 0) (bytesOf (dS t).s),?_,by omega,by omega,?_,by omega⟩) ?_
    ·rw[ha1,hL,Nat.zero_add]
     simp only[s_str,byte_len]
    ·rw[hL];simpa using hF
    ·show evs.length-(ad .i64 (0:Int) 1).toNat<evs.length+1
     omega
  ·have hnil:evs=[]:=List.eq_nil_of_length_eq_zero (by omega)
   refine pcf (by simp;omega) ?_
   exact tail_A hs nn evs hev hel room hr0 hr1 h0 h1 false [] false 0 0 false [] (by simp[Full]) (by rw[hnil];rfl) (by simp)
 ·simp only[F17.st6]
  have hlt:=lsz_take_le evs k
  by_cases h5:k<evs.length
  ·have hadd:ad .i64 (k:Int) 1=((k+1:Nat):Int):=by rw[ad64 (by omega) (by omega)];rfl
   refine pct (by simp;omega) (pct (by simp;omega) ?_)
   simp only[elems_slice,Int.toNat_natCast,ix_map h5]
   rcases one k h5 with ⟨b',p⟩ | ⟨t,p1,p2,p3⟩
   ·exact pbd p (pct rfl h0)
   ·have ht:=tlen_le (evBytes evs[k]).size
    have hev0:=evBytes_le (hev _ (List.getElem_mem h5))
    refine pbd p1 (pcf rfl (pbd (x:=dS t) p2 (pct (by simp[byte_len];omega) ?_)))
    have hF:=full_ap hf (bytesOf t)
    rw[byte_len] at hF
    have hL:lsz (evs.take (k+1))=lsz (evs.take k)+t.size:=by rw[lsz_succ h5,p3]
    refine hrec _ (.inr ⟨k+1,0,b||!(bytesOf (dS t).s).isEmpty,ap ((l.drop a).take (lsz (evs.take k))) (bytesOf (dS t).s),?_,by omega,by omega,?_,by omega⟩) ?_
    ·rw[hadd,hL]
     simp only[s_str,byte_len]
    ·rw[hL];exact hF
    ·show evs.length-(ad .i64 (k:Int) 1).toNat<evs.length-(k:Int).toNat
     rw[hadd];simp;omega
  ·refine pcf (by simp;omega) ?_
   have hke:k=evs.length:=by omega
   subst hke
   rw[List.take_length] at hf hpos ⊢
   exact tail_B hs nn evs hev hel room hr0 hr1 h0 h1 false [] false a _ b l hf rfl (fun _=>hpos)
end
theorem put_items {s:St} (hs:StOk s) (nn:Bool) (evs:List Ev) (hev:∀e∈evs,EvSm e) (room:Int) {Post:Option D→Prop} (h0:Post (some (.tup [dl false [],db false])))
  (h1:∀(r:Nat),room=(r:Int)→8≤r→r≤224→evs.length≤400→∀(b:Bool) (hd lg:ByteArray),hd.size=hlen s (nI evs.length)→lg.size=lsz evs→(itemsOf r s hd lg).length≤400→Post (some (.tup [dl b (itemsOf r s hd lg),db true]))) :
  Post (F17.s FUEL s.enc (dl nn (evs.map Ev.enc)) room):=by
 have hl:=hs.len
 unfold F17.s
 refine pbd (valid_state hs) (pcf rfl ?_)
 by_cases c1:room<8
 ·exact pct (by simpa using c1) h0
 refine pcf (by simp;omega) ?_
 by_cases c2:224<room
 ·exact pct (by simpa using c2) h0
 refine pcf (by simp;omega) ?_
 simp only[elems_slice,List.length_map]
 by_cases c3:400<evs.length
 ·exact pct (by simp;omega) h0
 refine pcf (by simp;omega) ?_
 obtain⟨r,hr⟩:∃r:Nat,room=(r:Int):=⟨room.toNat,by omega⟩
 have rest:Post (goS (F17.st6 FUEL) FUEL (.s0 (dl nn (evs.map Ev.enc)) room false [] false (dl nn (evs.map Ev.enc)) (nI evs.length) 0 s.enc 0 0 false []) putK):=by
  rw[hr]
  exact put_evs hs nn evs hev (by omega) r (by omega) (by omega) h0 (h1 r hr (by omega) (by omega) (by omega))
 have e0:s.enc.at 0=dl s.nn (s.files.map Fl.enc):=rfl
 rw[e0]
 simp only[elems_slice,List.length_map]
 refine goS_rule (fun t:F17.S78_2=>∃k:Nat,t=⟨dl s.nn (s.files.map Fl.enc),nI s.files.length,(k:Int),s.enc⟩∧k≤s.files.length) (fun t=>s.files.length-t.i4.toNat) Post ?_ _ _ ⟨0,rfl,by omega⟩ (by simp[FUEL];omega)
 rintro _ rec ⟨k,rfl,hk⟩ hrec
 simp only[F17.st78_2]
 by_cases h5:k<s.files.length
 ·have hadd:ad .i64 (k:Int) 1=((k+1:Nat):Int):=by rw[ad64 (by omega) (by omega)];rfl
  refine pct (by simp;omega) (pct (by simp;omega) ?_)
  simp only[elems_slice,Int.toNat_natCast,ix_map h5]
  have h52:F52.s FUEL s.files[k].enc=some (db (gtI s.files[k].id 134217728)):=rfl
  refine pbd h52 ?_
  by_cases c4:gtI s.files[k].id 134217728=true
  ·refine pct c4 ?_
   exact pct (by simp) h0
  ·refine pcf (by simpa using c4) ?_
   rw[hadd]
   exact hrec _ ⟨k+1,rfl,by omega⟩ (by simp;omega)
 ·refine pcf (by simp;omega) ?_
  exact rest
end Go.AM.SY
namespace Go.AM.SY
open Go Go.AM
structure It where
 lg:Int
 own:D
 tx:ByteArray
def It.enc (x:It):D:=item x.lg x.own x.tx
def chT (room:Nat) (o:D) (lg:Int) (s:ByteArray):List It:=
 if h:s.size=0∨room=0 then [] else ⟨lg,o,s.extract 0 (min room s.size)⟩::chT room o (lg+1) (s.extract (min room s.size) s.size)
termination_by s.size
decreasing_by simp[ByteArray.size_extract];omega
theorem chunksOf_eq (room:Nat) (o:D):∀(n:Nat) (lg:Int) (s:ByteArray),s.size≤n→chunksOf room o lg s=(chT room o lg s).map It.enc:=by
 intro n
 induction n with
 | zero=>
  intro lg s h
  have h0:s.size=0:=by omega
  rw[chunksOf,chT,dif_pos (.inl h0),dif_pos (.inl h0)];rfl
 | succ n ih=>
  intro lg s h
  rw[chunksOf,chT]
  split
  ·rfl
  ·rename_i h0
   rw[ih _ _ (by rw[ByteArray.size_extract];omega)]
   rfl
theorem chT_nil {room:Nat} {o:D} {lg:Int} {s:ByteArray} (h:s.size=0):chT room o lg s=[]:=by rw[chT,dif_pos (.inl h)]
theorem chT_get {room:Nat} (hr:8≤room) (o:D):∀(n:Nat) (lg:Int) (s:ByteArray),s.size≤n→∀(i:Nat) (h:i<(chT room o lg s).length),
  (chT room o lg s)[i].lg=lg+i∧(chT room o lg s)[i].own=o∧0<(chT room o lg s)[i].tx.size∧(chT room o lg s)[i].tx.size≤room∧(i+1<(chT room o lg s).length→(chT room o lg s)[i].tx.size=room):=by
 intro n
 induction n with
 | zero=>
  intro lg s hs i h
  rw[chT_nil (by omega)] at h
  simp at h
 | succ n ih=>
  intro lg s hs i h
  by_cases h0:s.size=0
  ·rw[chT_nil h0] at h;simp at h
  ·have hrest:(s.extract (min room s.size) s.size).size≤n:=by rw[ByteArray.size_extract];omega
   have e:chT room o lg s=⟨lg,o,s.extract 0 (min room s.size)⟩::chT room o (lg+1) (s.extract (min room s.size) s.size):=by
    rw[chT,dif_neg (by omega)]
   simp only[e] at h ⊢
   cases i with
   | zero=>
    simp only[List.getElem_cons_zero,List.length_cons]
    refine⟨by omega,trivial,?_,?_,fun h2=>?_⟩
    ·rw[ByteArray.size_extract];omega
    ·rw[ByteArray.size_extract];omega
    ·rw[ByteArray.size_extract]
     have:¬(s.extract (min room s.size) s.size).size=0:=by
      intro h3
      rw[chT_nil h3] at h2
      simp at h2
     rw[ByteArray.size_extract] at this
     omega
   | succ i=>
    simp only[List.getElem_cons_succ,List.length_cons] at h ⊢
    have:=ih (lg+1) _ hrest i (by simpa using h)
    refine⟨by rw[this.1];omega,this.2.1,this.2.2.1,this.2.2.2.1,fun h2=>this.2.2.2.2 (by omega)⟩
structure Row (room:Nat) (l:List It):Prop where
 pos:∀x∈l,0<x.tx.size∧x.tx.size≤room
 next:∀(i:Nat) (h:i+1<l.length),l[i].lg<l[i+1].lg∧(l[i+1].lg=l[i].lg+1→l[i].tx.size=room)
theorem Row.nil {room:Nat}:Row room []:=⟨by simp,by simp⟩
theorem Row.append {room:Nat} {a b:List It} {m:Int} (ha:Row room a) (hb:Row room b) (h1:∀x∈a,x.lg+1<m) (h2:∀x∈b,m≤x.lg):Row room (a++b):=by
 refine⟨fun x hx=>?_,fun i h=>?_⟩
 ·rcases List.mem_append.1 hx with hx | hx
  ·exact ha.pos x hx
  ·exact hb.pos x hx
 ·rw[List.length_append] at h
  by_cases c1:i+1<a.length
  ·rw[List.getElem_append_left c1,List.getElem_append_left (by omega)]
   exact ha.next i c1
  ·by_cases c2:i<a.length
   ·rw[List.getElem_append_left c2,List.getElem_append_right (by omega)]
    have g1:=h1 _ (List.getElem_mem c2)
    have g2:=h2 _ (List.getElem_mem (l:=b) (n:=i+1-a.length) (by omega))
    exact⟨by omega,by omega⟩
   ·rw[List.getElem_append_right (by omega),List.getElem_append_right (by omega)]
    have:=hb.next (i-a.length) (by omega)
    have e:i+1-a.length=i-a.length+1:=by omega
    simp only[e]
    exact this
theorem row_ch {room:Nat} (hr:8≤room) (o:D) (lg:Int) (s:ByteArray):Row room (chT room o lg s):=by
 have hg:=chT_get hr o s.size lg s (Nat.le_refl _)
 refine⟨fun x hx=>?_,fun i h=>?_⟩
 ·obtain⟨i,hi,rfl⟩:=List.getElem_of_mem hx
  have:=hg i hi
  exact⟨this.2.2.1,this.2.2.2.1⟩
 ·have a:=hg i (by omega)
  have b:=hg (i+1) h
  exact⟨by rw[a.1,b.1];omega,fun _=>a.2.2.2.2 h⟩
theorem ch_range {room:Nat} (hr:8≤room) (o:D) (lg:Int) (s:ByteArray):∀x∈chT room o lg s,lg≤x.lg∧x.lg<lg+(chT room o lg s).length∧x.own=o:=by
 intro x hx
 obtain⟨i,hi,rfl⟩:=List.getElem_of_mem hx
 have:=chT_get hr o s.size lg s (Nat.le_refl _) i hi
 exact⟨by rw[this.1];omega,by rw[this.1];omega,this.2.1⟩
def filesT (room:Nat) (l:List Fl):List It:=(l.map fun f=>chT room (di f.id) (4096*f.id) f.data).flatten
def itemsT (room:Nat) (s:St) (hd lg:ByteArray):List It:=chT room (di 0) 0 hd++chT room (di 0) 1000 lg++filesT room s.files
theorem filesOf_eq (room:Nat):∀l:List Fl,filesOf room l=(filesT room l).map It.enc
 | []=>rfl
 | f::l=>by
  have:=filesOf_eq room l
  simp only[filesOf,filesT,List.map_cons,List.flatten_cons,List.map_append] at this ⊢
  rw[this,chunksOf_eq _ _ _ _ _ (Nat.le_refl _)]
theorem itemsOf_eq (room:Nat) (s:St) (hd lg:ByteArray):itemsOf room s hd lg=(itemsT room s hd lg).map It.enc:=by
 unfold itemsOf itemsT
 rw[chunksOf_eq _ _ _ _ _ (Nat.le_refl _),chunksOf_eq _ _ _ _ _ (Nat.le_refl _),filesOf_eq,List.map_append,List.map_append]
theorem filesT_row {room:Nat} (hr:8≤room):∀(l:List Fl),(l.Pairwise fun a b=>a.id<b.id)→(filesT room l).length≤400→Row room (filesT room l)∧∀x∈filesT room l,∀m:Int,(∀f∈l,m≤f.id)→4096*m≤x.lg
 | [],_,_=>⟨Row.nil,by simp[filesT]⟩
 | f::l,h,hl=>by
  obtain⟨h1,h2⟩:=List.pairwise_cons.1 h
  have e:filesT room (f::l)=chT room (di f.id) (4096*f.id) f.data++filesT room l:=rfl
  rw[e,List.length_append] at hl
  obtain⟨i1,i2⟩:=filesT_row hr l h2 (by omega)
  have hc:=ch_range hr (di f.id) (4096*f.id) f.data
  rw[e]
  refine⟨(row_ch hr _ _ _).append (m:=4096*(f.id+1)) i1 (fun x hx=>?_) (fun x hx=>i2 x hx _ fun g hg=>?_),fun x hx m hm=>?_⟩
  ·have:=hc x hx;omega
  ·have:=h1 g hg;omega
  ·rcases List.mem_append.1 hx with hx | hx
   ·have:=hc x hx
    have:=hm f (by simp)
    omega
   ·exact i2 x hx m fun g hg=>hm g (by simp[hg])
theorem items_row {room:Nat} (hr:8≤room) {s:St} (hs:StOk s) {hd lg:ByteArray} (hl:(itemsT room s hd lg).length≤400):Row room (itemsT room s hd lg):=by
 unfold itemsT at hl ⊢
 rw[List.length_append,List.length_append] at hl
 have c1:=ch_range hr (di 0) 0 hd
 have c2:=ch_range hr (di 0) 1000 lg
 obtain⟨f1,f2⟩:=filesT_row hr s.files hs.rise (by omega)
 refine((row_ch hr _ _ _).append (m:=1000) (row_ch hr _ _ _) (fun x hx=>?_) (fun x hx=>(c2 x hx).1)).append (m:=4096) f1 (fun x hx=>?_) (fun x hx=>?_)
 ·have:=c1 x hx;omega
 ·rcases List.mem_append.1 hx with hx | hx
  ·have:=c1 x hx;omega
  ·have:=c2 x hx;omega
 ·have:=f2 x hx 1 fun f hf=>(hs.files f hf).id0
  omega
theorem items_first {room:Nat} (hr:8≤room) (s:St) {hd lg:ByteArray} (h:0<hd.size):∃(h:0<(itemsT room s hd lg).length),(itemsT room s hd lg)[0].lg=0:=by
 have e:chT room (di 0) 0 hd=⟨0,di 0,hd.extract 0 (min room hd.size)⟩::chT room (di 0) (0+1) (hd.extract (min room hd.size) hd.size):=by
  rw[chT,dif_neg (by omega)]
 refine⟨by unfold itemsT;rw[e];simp,?_⟩
 simp only[itemsT,e,List.cons_append,List.getElem_cons_zero]
theorem run_facts:∀(l:List Mo) (r:Run),StOk r.st→(∀o∈l,MoOk o)→(∀e∈r.evs,evB e=true∧EvSm e) →
  StOk (runFrom shaL l r).st∧(∀e∈(runFrom shaL l r).evs,evB e=true∧EvSm e)∧(runFrom shaL l r).evs.length≤r.evs.length+12*l.length
 | [],r,h,_,he=>⟨h,he,by simp[runFrom]⟩
 | o::l,r,h,hl,he=>by
  have ho:=hl o (by simp)
  have h1:=do_events shaL_len h ho
  have h2:=do_evs_len (sum:=shaL) (o:=o) h
  have:=run_facts l ⟨(doM shaL r.st o).st,true,r.ans++[(doM shaL r.st o).an],r.nnE||!(doM shaL r.st o).evs.isEmpty,r.evs++(doM shaL r.st o).evs⟩ (do_ok (sum:=shaL) h ho) (fun x hx=>hl x (by simp[hx])) (fun e hee=>by
   rcases List.mem_append.1 hee with hee | hee
   ·exact he e hee
   ·exact⟨(h1 e hee).1,(h1 e hee).2.1,(h1 e hee).2.2⟩)
  simp only[List.length_append,List.length_cons] at this ⊢
  rw[runFrom]
  refine⟨this.1,this.2.1,?_⟩
  have:=this.2.2
  omega
end Go.AM.SY
namespace Go.AM.SY
open Go Go.AM
theorem works_ok:F15.s FUEL=some (.bool true):=by kernel_rfl
end Go.AM.SY
namespace Go.AM.SY
open Go Go.AM
theorem few_specM (nn:Bool) (l:List Mo):F25.s FUEL (dl nn (l.map Mo.enc))=some (db (fewM l)):=by
 unfold F25.s
 refine goS_rule (fun t:F25.S2=>∃k:Nat,t=⟨dl nn (l.map Mo.enc),(k:Int)⟩∧k≤31∧∀i (h:i<l.length),i<k→oneM l[i]=true) (fun t=>31-t.i2.toNat) (fun o=>o=some (db (fewM l))) ?_ _ _ ⟨0,rfl,by omega,by omega⟩ (by simp[FUEL])
 rintro _ rec ⟨k,rfl,hk,hs⟩ hrec
 have hall:(∀i (h:i<l.length),i≤30→oneM l[i]=true)→(l.take 31).all oneM=true:=by
  intro h
  simp only[List.all_eq_true]
  intro e he
  obtain⟨i,hi,rfl⟩:=List.getElem_of_mem he
  simp at hi ⊢
  exact h i (by omega) (by omega)
 have hno:∀(h1:k<l.length),k≤30→oneM l[k]=false→fewM l=false:=by
  intro h1 h2 h3
  have:(l.take 31).all oneM=false:=by
   rw[List.all_eq_false]
   refine⟨l[k],?_,by simp[h3]⟩
   rw[List.mem_take_iff_getElem]
   exact⟨k,by omega,rfl⟩
  simp[fewM,this]
 simp only[F25.st2]
 by_cases h1:k<l.length
 ·refine ct (by simp;omega) ?_
  by_cases h2:k≤30
  ·refine ct (by simp;omega) (ct (by simp;omega) ?_)
   simp only[elems_slice,Int.toNat_natCast,ix_map h1]
   have ht:((l[k].enc.at 2).s)=l[k].text:=rfl
   have hn:((l[k].enc.at 1).s)=l[k].name:=rfl
   rw[ht,hn]
   by_cases h3:l[k].text.size≤700
   ·refine cf (by simp;omega) (ct (by simp;omega) ?_)
    by_cases h4:l[k].name.size≤200
    ·refine cf (by simp;omega) ?_
     have hadd:ad .i64 (k:Int) 1=((k+1:Nat):Int):=by rw[ad64 (by omega) (by omega)];rfl
     rw[hadd]
     refine hrec _ ⟨k+1,rfl,by omega,?_⟩ (by simp;omega)
     intro i hi hik
     by_cases hik':i=k
     ·subst hik';simp[oneM,h3,h4]
     ·exact hs i hi (by omega)
    ·refine ct (by simp;omega) ?_
     rw[hno h1 h2 (by simp[oneM,h4])]
   ·refine ct (by simp;omega) ?_
    rw[hno h1 h2 (by simp[oneM,h3])]
  ·refine cf (by simp;omega) ?_
   have:¬l.length≤30:=by omega
   simp[fewM,this,leI]
   try omega
 ·refine cf (by simp;omega) ?_
  have:=hall (fun i hi hi2=>hs i hi (by omega))
  simp[fewM,this,leI]
  omega
theorem files_bound {room:Nat} (hr:8≤room) {last:Int}:∀(l:List Fl),(∀f∈l,FlOk f last)→last≤1099511627776→(filesT room l).length≤400→∀x∈filesT room l,0≤x.lg∧x.lg≤10000000000000000
 | [],_,_,_=>by simp[filesT]
 | f::l,h,hl,hn=>by
  have e:filesT room (f::l)=chT room (di f.id) (4096*f.id) f.data++filesT room l:=rfl
  rw[e,List.length_append] at hn
  rw[e]
  intro x hx
  rcases List.mem_append.1 hx with hx | hx
  ·have:=ch_range hr (di f.id) (4096*f.id) f.data x hx
   have:=(h f (by simp)).id0
   have:=(h f (by simp)).id1
   omega
  ·exact files_bound hr l (fun g hg=>h g (by simp[hg])) hl (by omega) x hx
theorem items_bound {room:Nat} (hr:8≤room) {s:St} (hs:StOk s) {hd lg:ByteArray} (hl:(itemsT room s hd lg).length≤400):∀x∈itemsT room s hd lg,0≤x.lg∧x.lg≤10000000000000000:=by
 unfold itemsT at hl ⊢
 rw[List.length_append,List.length_append] at hl
 have c1:=ch_range hr (di 0) 0 hd
 have c2:=ch_range hr (di 0) 1000 lg
 intro x hx
 rcases List.mem_append.1 hx with hx | hx
 ·rcases List.mem_append.1 hx with hx | hx
  ·have:=c1 x hx;omega
  ·have:=c2 x hx;omega
 ·exact files_bound hr s.files hs.files hs.last1 (by omega) x hx
theorem chunks_law (nn:Bool) (l:List Mo) (hl:∀o∈l,o.ok) (room:Int):F6.s FUEL (dl nn (l.map Mo.enc)) room=some (db true):=by
 unfold F6.s
 refine bdS works_ok (cf rfl (bdS (few_specM nn l) ?_))
 cases hf:fewM l with
 | false=>exact ct rfl rfl
 | true=>
 refine cf rfl ?_
 obtain⟨hlen,hmo⟩:=few_okM hf hl
 obtain⟨hst,hev,hel⟩:=run_facts l (run0 emptyS) emptyS_ok hmo (by simp[run0])
 refine bdS (run_spec emptyS nn l emptyS_ok hmo (by omega)) ?_
 obtain⟨R,hR⟩:∃R,R=runM shaL emptyS l:=⟨_,rfl⟩
 rw[←hR]
 have hst':StOk R.st:=by rw[hR];exact hst
 have hev':∀e∈R.evs,EvSm e:=by rw[hR];exact fun e he=>(hev e he).2
 have e0:R.enc.at 0=R.st.enc:=rfl
 have e2:R.enc.at 2=dl R.nnE (R.evs.map Ev.enc):=rfl
 rw[e0,e2]
 refine put_items hst' R.nnE R.evs hev' room (Post:=fun o=>bd o _=some (db true)) rfl ?_
 intro r hr hr8 _ _ b hd lg hhd _ h4
 have hhd0:0<hd.size:=by
  rw[hhd]
  have:=nlen_le R.st.last
  unfold Go.AM.SY.hlen
  omega
 rw[itemsOf_eq] at h4 ⊢
 rw[List.length_map] at h4
 have hL:=items_row hr8 hst' h4
 obtain⟨hp,hz⟩:=items_first hr8 R.st (lg:=lg) hhd0
 have hbd:=items_bound hr8 hst' h4
 generalize itemsT r R.st hd lg=L at h4 hL hp hz hbd ⊢
 subst hr
 refine bdS rfl (cf rfl ?_)
 have e3:(D.tup [dl b (L.map It.enc),db true]).at 0=dl b (L.map It.enc):=rfl
 rw[e3]
 have hget:∀(i:Nat) (h:i<L.length),ix (L.map It.enc) i=L[i].enc:=fun i h=>ix_map h
 have hlg:∀x:It,(x.enc.at 0).i=x.lg:=fun _=>rfl
 have htx:∀x:It,(x.enc.at 2).s=x.tx:=fun _=>rfl
 refine goS_rule (fun t:F6.S12=>∃k:Nat,t=⟨(r:Int),db true,dl b (L.map It.enc),(k:Int),R.st.enc⟩∧k≤L.length) (fun t=>L.length-t.i8.toNat) (fun o=>o=some (db true)) ?_ _ _ ⟨0,rfl,by omega⟩ (by simp[FUEL];omega)
 rintro _ rec ⟨k,rfl,hk⟩ hrec
 simp only[F6.st12]
 by_cases h5:k<L.length
 ·have hadd:ad .i64 (k:Int) 1=((k+1:Nat):Int):=by rw[ad64 (by omega) (by omega)];rfl
  obtain⟨p1,p2⟩:=hL.pos _ (List.getElem_mem h5)
  have hb5:=hbd _ (List.getElem_mem h5)
  have fin:rec ⟨(r:Int),db true,dl b (L.map It.enc),ad .i64 (k:Int) 1,R.st.enc⟩=some (db true):=by
   rw[hadd]
   exact hrec _ ⟨k+1,rfl,by omega⟩ (by simp;omega)
  have more:(cond (ltI (ad .i64 (k:Int) 1) (nI (dl b (L.map It.enc)).elems.length)) (cond (inb (ad .i64 (k:Int) 1) (dl b (L.map It.enc)).elems.length) (cond (inb (k:Int) (dl b (L.map It.enc)).elems.length) (cond (eqI ((ix (dl b (L.map It.enc)).elems (ad .i64 (k:Int) 1).toNat).at 0).i (ad .i64 ((ix (dl b (L.map It.enc)).elems (k:Int).toNat).at 0).i 1)) (cond (inb (k:Int) (dl b (L.map It.enc)).elems.length) (cond (neI (nI ((ix (dl b (L.map It.enc)).elems (k:Int).toNat).at 2).s.size) (r:Int)) (some (db false)) (rec ⟨(r:Int),db true,dl b (L.map It.enc),(ad .i64 (k:Int) 1),R.st.enc⟩)) none) (rec ⟨(r:Int),db true,dl b (L.map It.enc),(ad .i64 (k:Int) 1),R.st.enc⟩)) none) none) (rec ⟨(r:Int),db true,dl b (L.map It.enc),(ad .i64 (k:Int) 1),R.st.enc⟩))=some (db true):=by
   by_cases h6:k+1<L.length
   ·have hn:=hL.next k h6
    refine ct (by rw[hadd];simp;omega) (ct (by rw[hadd];simp;omega) (ct (by simp;omega) ?_))
    have h7:((ix (dl b (L.map It.enc)).elems (ad .i64 (k:Int) 1).toNat).at 0).i=L[k+1].lg:=by rw[hadd];exact congrArg (fun d=>(d.at 0).i) (hget _ h6)
    have h8:((ix (dl b (L.map It.enc)).elems (k:Int).toNat).at 0).i=L[k].lg:=congrArg (fun d=>(d.at 0).i) (hget _ h5)
    have h9:((ix (dl b (L.map It.enc)).elems (k:Int).toNat).at 2).s=L[k].tx:=congrArg (fun d=>(d.at 2).s) (hget _ h5)
    rw[h7,h8,h9,ad64 (by omega) (by omega)]
    by_cases h10:L[k+1].lg=L[k].lg+1
    ·refine ct (by simpa using h10) (ct (by simp;omega) (cf ?_ fin))
     have:=hn.2 h10
     simp;omega
    ·exact cf (by simpa using h10) fin
   ·exact cf (by rw[hadd];simp;omega) fin
  have h9:((ix (dl b (L.map It.enc)).elems (k:Int).toNat).at 2).s=L[k].tx:=congrArg (fun d=>(d.at 2).s) (hget _ h5)
  have h8:((ix (dl b (L.map It.enc)).elems (k:Int).toNat).at 0).i=L[k].lg:=congrArg (fun d=>(d.at 0).i) (hget _ h5)
  refine ct (by simp;omega) (ct (by simp;omega) (cf (by rw[h9];simp only[eqI_f,nI_eq];omega) (ct (by simp;omega) (cf (by rw[h9];simp only[gtI_f,nI_eq];omega) ?_))))
  by_cases hk0:0<k
  ·have hsub:sb .i64 (k:Int) 1=((k-1:Nat):Int):=by rw[sb64 (by omega) (by omega)];omega
   have hk1:k-1<L.length:=by omega
   have hn:=hL.next (k-1) (by omega)
   have e4:k-1+1=k:=by omega
   simp only[e4] at hn
   have h7:((ix (dl b (L.map It.enc)).elems (sb .i64 (k:Int) 1).toNat).at 0).i=L[k-1].lg:=by rw[hsub];exact congrArg (fun d=>(d.at 0).i) (hget _ hk1)
   refine ct (by simp;omega) (ct (by rw[hsub];simp;omega) (ct (by simp;omega) (cf ?_ more)))
   rw[h7,h8]
   simp;omega
  ·exact cf (by simp;omega) more
 ·refine cf (by simp;omega) ?_
  refine ct rfl (ct (by simp;omega) (ct (by simp;omega) ?_))
  have h8:((ix (dl b (L.map It.enc)).elems 0).at 0).i=L[0].lg:=congrArg (fun d=>(d.at 0).i) (hget 0 hp)
  rw[h8,hz]
  rfl
theorem pure6:∀ds,D.hass ty ds [(.slice 74),(.int .i64)]→D.wfs ds→F6.c.run ds=some (.bool true):=by
 intro ds h hw
 obtain⟨d0,_,rfl,h0,h⟩:=hassC h
 obtain⟨d1,_,rfl,h1,h⟩:=hassC h
 obtain rfl:=hass0 h
 simp only[D.wfs] at hw
 obtain⟨nn,l,rfl,hl⟩:=mos_of h0 hw.1
 obtain⟨n,rfl⟩:=has_int h1
 exact chunks_law nn l hl n
end Go.AM.SY
