/- Part 13 of the proof: the abstract machine, what the functions compute, and plain laws over that. -/
import Derived.Test.YtmbnifmpbafcjaaGreatDoorIa12
import Derived.KernelRfl
set_option linter.all false
set_option linter.unusedSimpArgs false
set_option linter.unusedVariables false
set_option linter.unusedSectionVars false
namespace Go.AM.SY
open Go Go.AM
theorem within_specM (n h:Int):F105.s FUEL n h=some (db (decide (0≤n)&&decide (n≤h))):=by
 unfold F105.s
 by_cases h0:0≤n
 ·exact ct (by simpa using h0) (by simp[h0,leI])
 ·exact cf (by simp;omega) (by simp[h0])
theorem valid_file {f:Fl} {last:Int} (hf:FlOk f last) (hl:last≤1099511627776):F106.s FUEL f.enc=some (db true):=by
 have i0:=hf.id0
 have i1:=hf.id1
 have u0:=hf.until0
 have u1:=hf.until1
 have hns:=hf.nsz
 have hda:=hf.data
 have hho:=hf.hold
 unfold F106.s
 refine bdS (numbered_spec f.id) (cf ?_ (bdS (name_spec f.name (by omega)) (cf ?_ (cf ?_ (cf ?_ (cf ?_ (cf ?_ ?_)))))))
 ·show (!(decide (1≤f.id)&&decide (f.id≤1099511627776)))=false
  simp;omega
 ·show (!nameB f.name)=false
  simp[hf.name]
 ·show gtI (nI f.data.size) 600=false
  simp;omega
 ·show ltI f.until_ 0=false
  simp;omega
 ·show gtI f.until_ 1099511627776=false
  simp;omega
 ·show gtI (nI (f.holds.map dS).length) 4=false
  simp;omega
 have h3:(f.enc.at 3).b=f.sealed:=rfl
 have h4:(f.enc.at 4).i=f.until_:=rfl
 have h5:f.enc.at 5=dl f.nn (f.holds.map dS):=rfl
 rw[h3,h4,h5]
 by_cases hse:f.sealed=true
 ·refine cf (by simp[hse]) ?_
  refine goS_rule (fun t:F106.S6=>∃k:Nat,t=⟨dl f.nn (f.holds.map dS),nI (f.holds.map dS).length,(k:Int),f.enc⟩∧k≤f.holds.length) (fun t=>f.holds.length-t.i5.toNat) (fun o=>o=some (db true)) ?_ _ _ ⟨0,rfl,by omega⟩ (by simp[FUEL];omega)
  rintro _ rec ⟨k,rfl,hk⟩ hrec
  simp only[F106.st6]
  by_cases h1:k<f.holds.length
  ·have hadd:ad .i64 (k:Int) 1=((k+1:Nat):Int):=by rw[ad64 (by omega) (by omega)];rfl
   have hkz:=hf.hsz _ (List.getElem_mem h1)
   refine ct (by simp;omega) (ct (by simp;omega) ?_)
   simp only[elems_slice,Int.toNat_natCast,ix_map h1]
   refine bdS (name_spec f.holds[k] (by omega)) (cf (by show (!nameB f.holds[k])=false;simp[hf.hname _ (List.getElem_mem h1)]) ?_)
   have fin:rec ⟨dl f.nn (f.holds.map dS),nI (f.holds.map dS).length,ad .i64 (k:Int) 1,f.enc⟩=some (db true):=by
    rw[hadd]
    exact hrec _ ⟨k+1,rfl,by omega⟩ (by simp;omega)
   by_cases h0:0<k
   ·have hsub:sb .i64 (k:Int) 1=((k-1:Nat):Int):=by rw[sb64 (by omega) (by omega)];omega
    have hk1:k-1<f.holds.length:=by omega
    have hkz1:=hf.hsz _ (List.getElem_mem hk1)
    refine ct (by simp;omega) (ct (by rw[h5,hsub];simp;omega) ?_)
    rw[h5,hsub]
    simp only[elems_slice,Int.toNat_natCast,ix_map hk1]
    have hlt:lessB f.holds[k-1] f.holds[k]=true:=(List.pairwise_iff_getElem.1 hf.rise) (k-1) k hk1 h1 (by omega)
    refine bdS (less_spec _ _ (by show f.holds[k-1].size≤_;omega) (by show f.holds[k].size≤_;omega)) (cf (by rw[show (dS f.holds[k-1]).s=f.holds[k-1] from rfl,show (dS f.holds[k]).s=f.holds[k] from rfl,hlt];rfl) fin)
   ·exact cf (by simp;omega) fin
  ·exact cf (by simp;omega) rfl
 ·obtain⟨e1,e2⟩:=hf.opn (by simpa using hse)
  refine ct (by simpa using hse) (ct (by simp[e1]) ?_)
  rw[e2];rfl
theorem valid_state {s:St} (hs:StOk s):F53.s FUEL s.enc=some (db true):=by
 have hl:=hs.len
 have l0:=hs.last0
 have l1:=hs.last1
 have f0:=hs.floor0
 have f1:=hs.floor1
 unfold F53.s
 have h0:s.enc.at 0=dl s.nn (s.files.map Fl.enc):=rfl
 have hla:(s.enc.at 1).i=s.last:=rfl
 have hfl:(s.enc.at 2).i=s.floor:=rfl
 rw[h0,hla,hfl]
 refine cf (by simp;omega) (bdS (within_specM _ _) (cf (by simp;omega) (bdS (within_specM _ _) (cf (by simp;omega) ?_))))
 refine goS_rule (fun t:F53.S4=>∃k:Nat,t=⟨dl s.nn (s.files.map Fl.enc),nI s.files.length,(k:Int),s.enc⟩∧k≤s.files.length) (fun t=>s.files.length-t.i5.toNat) (fun o=>o=some (db true)) ?_ _ _ ⟨0,by simp,by omega⟩ (by simp[FUEL];omega)
 rintro _ rec ⟨k,rfl,hk⟩ hrec
 simp only[F53.st4]
 by_cases h1:k<s.files.length
 ·have hadd:ad .i64 (k:Int) 1=((k+1:Nat):Int):=by rw[ad64 (by omega) (by omega)];rfl
  have hf:=hs.files _ (List.getElem_mem h1)
  have i1:=hf.id1
  have hns:=hf.nsz
  refine ct (by simp;omega) (ct (by simp;omega) ?_)
  simp only[elems_slice,Int.toNat_natCast,ix_map h1]
  refine bdS (valid_file hf hs.last1) (cf rfl (cf (by show gtI s.files[k].id s.last=false;simp;omega) ?_))
  have hfind:findI (fun f:Fl=>decide (f.name=s.files[k].name)) s.files=(k:Int):=by
   refine findI_some (findIdx_some_of h1 (fun i hi hik=>?_) (by simp))
   have:=(List.pairwise_iff_getElem.1 hs.names) i k hi h1 hik
   simpa using this
  refine bdS (find_specM s s.files[k].name (by omega)) (cf (by rw[hfind];simp) ?_)
  have fin:rec ⟨dl s.nn (s.files.map Fl.enc),nI s.files.length,ad .i64 (k:Int) 1,s.enc⟩=some (db true):=by
   rw[hadd]
   exact hrec _ ⟨k+1,rfl,by omega⟩ (by simp;omega)
  by_cases hk0:0<k
  ·have hsub:sb .i64 (k:Int) 1=((k-1:Nat):Int):=by rw[sb64 (by omega) (by omega)];omega
   have hk1:k-1<s.files.length:=by omega
   have hlt:=(List.pairwise_iff_getElem.1 hs.rise) (k-1) k hk1 h1 (by omega)
   refine ct (by simp;omega) (ct (by rw[h0,hsub];simp;omega) (cf ?_ fin))
   rw[h0,hsub]
   simp only[elems_slice,Int.toNat_natCast,ix_map hk1]
   show geI s.files[k-1].id s.files[k].id=false
   simp;omega
  ·exact cf (by simp;omega) fin
 ·exact cf (by simp;omega) rfl
end Go.AM.SY
namespace Go.AM.SY
open Go Go.AM
def item (lg:Int) (o:D) (b:ByteArray):D:=da [di lg,o,dS b]
def chunksOf (room:Nat) (o:D) (lg:Int) (s:ByteArray):List D:=
 if h:s.size=0∨room=0 then [] else item lg o (s.extract 0 (min room s.size))::chunksOf room o (lg+1) (s.extract (min room s.size) s.size)
termination_by s.size
decreasing_by simp[ByteArray.size_extract];omega
structure RowIs (n m:Nat) (l L:List D):Prop where
 eq:(l.drop n).take m=L
 len:m=L.length
theorem RowIs.ap {n m:Nat} {l L:List D} (h:RowIs n m l L) (x:D):RowIs 0 (m+1) (ap ((l.drop n).take m) [x]) (L++[x]):=by
 refine⟨?_,by simp[h.len]⟩
 rw[h.eq,Go.AM.ap,List.drop_zero,List.take_of_length_le (by simp[h.len])]
theorem chunk_loop {S X:Type} {st:S→(S→Option D)→(X→Option D)→Option D} {mk:Int→ByteArray→Nat→Nat→Bool→List D→S} {ex:Int→ByteArray→Nat→Nat→Bool→List D→X} {room:Nat} {o:D} {lg:Int}
  (hst:∀i s n m b l rec K,st (mk i s n m b l) rec K=(cond (gtI (nI s.size) 0) (cond (true&&(leI 0 (mini (room:Int) (nI s.size)))&&(leI (mini (room:Int) (nI s.size)) (nI s.size))&&(leI (nI s.size) (nI s.size))) (cond (mx (m+1)) (cond ((leI 0 (mini (room:Int) (nI s.size)))&&(leI (mini (room:Int) (nI s.size)) (nI s.size))&&(leI (nI s.size) (nI s.size))&&(leI (nI s.size) (nI s.size)))
   (rec (mk (ad .i64 i 1) (s.extract (mini (room:Int) (nI s.size)).toNat s.size) 0 (m+1) (b||true) (ap ((l.drop n).take m) [(da [(di (ad .i64 lg i)),o,(dS (s.extract 0 (mini (room:Int) (nI s.size)).toNat))])]))) none) none) none) (K (ex i s n m b l))))
  (hroom:8≤room) (hlg:0≤lg∧lg≤9007199254740992) {Post:Option D→Prop} (K:X→Option D):∀(fuel N:Nat) (i:Nat) (s:ByteArray) (n m:Nat) (b:Bool) (l L:List D),s.size≤8*fuel→fuel+1≤N→i+fuel≤1000000000→m+fuel≤1000000000→RowIs n m l L →
   (∀(i':Int) (s':ByteArray) (n' m':Nat) (b':Bool) (l':List D),RowIs n' m' l' (L++chunksOf room o (lg+i) s)→Post (K (ex i' s' n' m' b' l')))→Post (goS st N (mk (i:Int) s n m b l) K):=by
 have hmini:∀s:ByteArray,mini (room:Int) (nI s.size)=((min room s.size:Nat):Int):=by
  intro s
  show (if (s.size:Int)<(room:Int) then (s.size:Int) else (room:Int))=_
  split<;>omega
 intro fuel
 induction fuel with
 | zero=>
  intro N i s n m b l L hs hN hi hm hr hK
  obtain⟨N,rfl⟩:∃N',N=N'+1:=⟨N-1,by omega⟩
  simp only[goS]
  rw[hst]
  have hs0:s.size=0:=by omega
  refine pcf (by simp[hs0]) ?_
  have:chunksOf room o (lg+i) s=[]:=by rw[chunksOf,dif_pos (.inl hs0)]
  rw[this,List.append_nil] at hK
  exact hK _ _ _ _ _ _ hr
 | succ fuel ih=>
  intro N i s n m b l L hs hN hi hm hr hK
  obtain⟨N,rfl⟩:∃N',N=N'+1:=⟨N-1,by omega⟩
  simp only[goS]
  rw[hst]
  by_cases h0:s.size=0
  ·refine pcf (by simp[h0]) ?_
   have:chunksOf room o (lg+i) s=[]:=by rw[chunksOf,dif_pos (.inl h0)]
   rw[this,List.append_nil] at hK
   exact hK _ _ _ _ _ _ hr
  ·rw[hmini]
   have hmin:min room s.size≤s.size:=Nat.min_le_right _ _
   refine pct (by simp;omega) (pct (by simp;omega) (pct (by simp;omega) (pct (by simp;omega) ?_)))
   rw[ad64 (by omega) (by omega),ad64 (by omega) (by omega),Int.toNat_natCast]
   have hr':=hr.ap (da [(di (lg+(i:Int))),o,(dS (s.extract 0 (min room s.size)))])
   refine ih N (i+1) _ 0 (m+1) _ _ _ ?_ (by omega) (by omega) (by omega) hr' (fun i' s' n' m' b' l' h=>hK i' s' n' m' b' l' ?_)
   ·rw[ByteArray.size_extract];omega
   ·have e:chunksOf room o (lg+i) s=item (lg+i) o (s.extract 0 (min room s.size))::chunksOf room o (lg+i+1) (s.extract (min room s.size) s.size):=by
     rw[chunksOf,dif_neg (by omega)]
    rw[e]
    rw[List.append_assoc] at h
    have e2:lg+((i+1:Nat):Int)=lg+(i:Int)+1:=by omega
    rw[e2] at h
    exact h
def evBytes (e:Ev):ByteArray:=((F55.s FUEL e.enc).getD (.tup [])).at 0 |>.s
def lsz (l:List Ev):Nat:=(l.map fun e=>tlen (evBytes e).size).sum
theorem lsz_succ {l:List Ev} {k:Nat} (h:k<l.length):lsz (l.take (k+1))=lsz (l.take k)+tlen (evBytes l[k]).size:=by
 unfold lsz
 rw[List.take_succ_eq_append_getElem h]
 simp only[List.map_append,List.sum_append,List.map_cons,List.map_nil,List.sum_cons,List.sum_nil,Nat.add_zero]
theorem lsz_append (a b:List Ev):lsz (a++b)=lsz a+lsz b:=by simp[lsz]
structure EvSm (e:Ev):Prop where
 name:e.name.size≤1000
 sum:e.sum.length=32
theorem evBytes_le {e:Ev} (h:EvSm e):(evBytes e).size≤4200:=by
 unfold evBytes
 have:=h.name
 rcases put_spec e (by omega) h.sum with h1 | ⟨b,h1,h2⟩
 ·rw[h1];simp
 ·rw[h2];simpa using (by omega:b.size≤4200)
theorem lsz_le:∀(l:List Ev),(∀e∈l,EvSm e)→lsz l≤l.length*4209
 | [],_=>by simp[lsz]
 | e::l,h=>by
  have h1:=lsz_le l fun x hx=>h x (by simp[hx])
  have h2:=evBytes_le (h e (by simp))
  have h3:=tlen_le (evBytes e).size
  simp only[lsz,List.map_cons,List.sum_cons,List.length_cons,Nat.add_mul] at h1 ⊢
  omega
theorem lsz_take_le (l:List Ev) (k:Nat):lsz (l.take k)≤lsz l:=by
 have:lsz l=lsz (l.take k)+lsz (l.drop k):=by rw[←lsz_append,List.take_append_drop]
 omega
def filesOf (room:Nat) (l:List Fl):List D:=(l.map fun f=>chunksOf room (di f.id) (4096*f.id) f.data).flatten
def itemsOf (room:Nat) (s:St) (hd lg:ByteArray):List D:=chunksOf room (di 0) 0 hd++chunksOf room (di 0) 1000 lg++filesOf room s.files
theorem filesOf_succ {room:Nat} {l:List Fl} {k:Nat} (h:k<l.length):filesOf room (l.take (k+1))=filesOf room (l.take k)++chunksOf room (di l[k].id) (4096*l[k].id) l[k].data:=by
 unfold filesOf
 rw[List.take_succ_eq_append_getElem h]
 simp only[List.map_append,List.flatten_append,List.map_cons,List.map_nil,List.flatten_cons,List.flatten_nil,List.append_nil]
theorem chunksOf_len (room:Nat) (hroom:8≤room):∀(n:Nat) (s:ByteArray) (o:D) (lg:Int),s.size≤n→(chunksOf room o lg s).length≤s.size:=by
 intro n
 induction n with
 | zero=>intro s o lg h;have h0:s.size=0:=by omega
         rw[chunksOf,dif_pos (.inl h0)];simp
 | succ n ih=>
  intro s o lg h
  rw[chunksOf]
  split
  ·simp
  ·rename_i h0
   have:=ih (s.extract (min room s.size) s.size) o (lg+1) (by rw[ByteArray.size_extract];omega)
   rw[ByteArray.size_extract] at this
   simp only[List.length_cons]
   omega
def putK:F17.X6→Option D:=fun x=>match x with | .e0 d22 i23 d27 i29 d30 n31 n32 b33 l34=>(some (D.tup [(dl false []),(db false)])) | .e1 d22 i23 b24 l25 b26 d30 n31 n32 b33 l34=>(bd (F60.s FUEL d30 (nI d22.elems.length)) fun r52=>(goS (F17.st110_1 FUEL) FUEL ⟨0,d30,n31,n32,b33,l34,r52,i23,0,0,0,0,false,[]⟩ fun x=>match x with | .e0 d54 n55 n56 b57 l58 d59 i60 i61 i62 n63 n64 b65 l66=>(cond (true&&((bif b57 then (decide (0<n56)) else true)&&(mx n56))) (cond (((Nat.beq n63 n63)&&(Nat.beq n64 n64))&&true) (cond (((Nat.beq n63 n63)&&(Nat.beq n64 n64))&&true) (goS (F17.st110_1_9_17 FUEL) FUEL ⟨0,d54,n55,n56,d59,i60,i61,i62,n63,n64,n63,n64,(ofBytes ((l58.drop n55).take n56)),i23,0,1000,n63,n64,b65,l66⟩ fun x=>match x with | .e0 d68 n69 n70 d71 i72 i73 i74 n75 n76 n77 n78 s79 i80 i81 i82 n83 n84 b85 l86=>(goS (F17.st16 FUEL) FUEL ⟨i23,b24,l25,b26,(d68.at 0),(nI (d68.at 0).elems.length),0,d68,n69,n70,d71,i72,i73,i74,n75,n76,n83,n84,s79,i80,i81,i82,n83,n84,b85,l86⟩ fun x=>match x with | .e0 b88 l89 b90 d94 n95 n96 d97 i98 i99 i100 n101 n102 n103 n104 s105 i106 i107 i108 n109 n110 b111 l112=>(cond (gtI (nI n104) 400) (some (D.tup [(dl false []),(db false)])) (some (D.tup [(dl b111 ((l112.drop n103).take n104)),(db true)]))))) none) none) none))) | .e2 d35 i36 d40 i42 d43 n44 n45 b46 l47=>(some (D.tup [(dl false []),(db false)])) | .e3 d35 i36 b37 l38 b39 d43 n44 n45 b46 l47=>(bd (F60.s FUEL d43 (nI d35.elems.length)) fun r138=>(goS (F17.st110_1_8_9 FUEL) FUEL ⟨0,d43,n44,n45,b46,l47,r138,i36,0,0,0,0,false,[]⟩ fun x=>match x with | .e0 d140 n141 n142 b143 l144 d145 i146 i147 i148 n149 n150 b151 l152=>(cond (true&&((bif b143 then (decide (0<n142)) else true)&&(mx n142))) (cond (((Nat.beq n149 n149)&&(Nat.beq n150 n150))&&true) (cond (((Nat.beq n149 n149)&&(Nat.beq n150 n150))&&true) (goS (F17.st110_1_9_17_w2 FUEL) FUEL ⟨0,d140,n141,n142,d145,i146,i147,i148,n149,n150,n149,n150,(ofBytes ((l144.drop n141).take n142)),i36,0,1000,n149,n150,b151,l152⟩ fun x=>match x with | .e0 d154 n155 n156 d157 i158 i159 i160 n161 n162 n163 n164 s165 i166 i167 i168 n169 n170 b171 l172=>(goS (F17.st16_11_0 FUEL) FUEL ⟨i36,b37,l38,b39,(d154.at 0),(nI (d154.at 0).elems.length),0,d154,n155,n156,d157,i158,i159,i160,n161,n162,n169,n170,s165,i166,i167,i168,n169,n170,b171,l172⟩ fun x=>match x with | .e0 b174 l175 b176 d180 n181 n182 d183 i184 i185 i186 n187 n188 n189 n190 s191 i192 i193 i194 n195 n196 b197 l198=>(cond (gtI (nI n190) 400) (some (D.tup [(dl false []),(db false)])) (some (D.tup [(dl b197 ((l198.drop n189).take n190)),(db true)]))))) none) none) none)))
theorem builder_ok {b:Bool} {n:Nat} (h:b=true→0<n) (hn:n≤100000000):(true&&((bif b then (decide (0<n)) else true)&&(mx n)))=true:=by
 cases b with
 | false=>simp;omega
 | true=>have:=h rfl;simp;omega
section
variable {s:St} (hs:StOk s) (nn:Bool) (evs:List Ev) (hev:∀e∈evs,EvSm e) (hel:evs.length≤400) (room:Nat) (hr0:8≤room) (hr1:room≤224)
 {Post:Option D→Prop} (h0:Post (some (.tup [dl false [],db false])))
 (h1:∀(b:Bool) (hd lg:ByteArray),hd.size=Go.AM.SY.hlen s (nI evs.length)→lg.size=lsz evs→(itemsOf room s hd lg).length≤400→Post (some (.tup [dl b (itemsOf room s hd lg),db true])))
include hs hev hel hr0 hr1 h0 h1
theorem tail_A (b24:Bool) (l25:List D) (b26:Bool) (a c:Nat) (b33:Bool) (l34:List D) (hf:Full l34 a c) (hc:c=lsz evs) (hb:b33=true→0<c):Post (putK (.e1 (dl nn (evs.map Ev.enc)) (room:Int) b24 l25 b26 s.enc a c b33 l34)):=by
 obtain⟨hd,x1,x2⟩:=head_spec s hs (nI evs.length)
 have hl1:=hs.len
 have hl2:=fsum_le hs.files
 have hl3:=nlen_le s.last
 have hl4:=nlen_le s.floor
 have hl5:=nlen_le (s.files.length:Int)
 have hl6:=nlen_le (nI evs.length)
 have hmul:s.files.length*6000≤12*6000:=Nat.mul_le_mul_right _ hl1
 have hhd:hd.size≤80000:=by rw[x2];unfold Go.AM.SY.hlen;omega
 have hls:=lsz_le evs hev
 have hmul2:evs.length*4209≤400*4209:=Nat.mul_le_mul_right _ hel
 show Post (bd (F60.s FUEL s.enc (nI (evs.map Ev.enc).length)) _)
 rw[List.length_map]
 refine pbd x1 ?_
 refine chunk_loop (st:=F17.st110_1 FUEL) (mk:=fun i s' n m b l=>⟨i,s.enc,a,c,b33,l34,dS s',(room:Int),0,0,n,m,b,l⟩) (ex:=fun i s' n m b l=>.e0 s.enc a c b33 l34 (dS s') (room:Int) 0 0 n m b l) (o:=di 0) (lg:=0) (fun _ _ _ _ _ _ _ _=>rfl) hr0 (by omega) _ hd.size FUEL 0 hd 0 0 false [] [] (by omega) (by simp only[FUEL];omega) (by omega) (by omega) ⟨rfl,rfl⟩ (fun i1 s1 n1 m1 b1 l1 hw1=>?_)
 have hk1:=chunksOf_len room hr0 _ hd (di 0) (0+((0:Nat):Int)) (Nat.le_refl _)
 have hm1:=hw1.len
 simp only[List.nil_append] at hm1
 refine pct (builder_ok hb (by omega)) (pct (by simp) (pct (by simp) ?_))
 obtain⟨lg,hlg⟩:∃lg,lg=ofBytes ((l34.drop a).take c):=⟨_,rfl⟩
 have hlgs:lg.size=lsz evs:=by rw[hlg,byte_size,full_len hf,hc]
 rw[←hlg]
 refine chunk_loop (st:=F17.st110_1_9_17 FUEL) (mk:=fun i s' n m b l=>⟨i,s.enc,a,c,dS s1,(room:Int),0,0,n1,m1,n1,m1,s',(room:Int),0,1000,n,m,b,l⟩) (ex:=fun i s' n m b l=>.e0 s.enc a c (dS s1) (room:Int) 0 0 n1 m1 n1 m1 s' (room:Int) 0 1000 n m b l) (o:=di 0) (lg:=1000) (fun _ _ _ _ _ _ _ _=>rfl) hr0 (by omega) _ ((lg.size+7) / 8) FUEL 0 lg n1 m1 b1 l1 _ (by omega) (by simp only[FUEL];omega) (by omega) (by omega) hw1 (fun i2 s2 n2 m2 b2 l2 hw2=>?_)
 have hk2:=chunksOf_len room hr0 _ lg (di 0) (1000+((0:Nat):Int)) (Nat.le_refl _)
 have hm2:=hw2.len
 simp only[List.nil_append,List.length_append] at hm2
 have e0:s.enc.at 0=dl s.nn (s.files.map Fl.enc):=rfl
 show Post (goS (F17.st16 FUEL) FUEL ⟨(room:Int),b24,l25,b26,(s.enc.at 0),(nI (s.enc.at 0).elems.length),0,s.enc,a,c,dS s1,(room:Int),0,0,n1,m1,n2,m2,s2,(room:Int),0,1000,n2,m2,b2,l2⟩ _)
 rw[e0]
 simp only[elems_slice,List.length_map]
 obtain⟨L2,hL2⟩:∃L2,L2=[]++chunksOf room (di 0) (0+((0:Nat):Int)) hd++chunksOf room (di 0) (1000+((0:Nat):Int)) lg:=⟨_,rfl⟩
 rw[←hL2] at hw2
 have hfl:∀k,(filesOf room (s.files.take k)).length≤8000:=by
  intro k
  have:∀(l:List Fl),(∀f∈l,FlOk f s.last)→(filesOf room l).length≤l.length*600:=by
   intro l
   induction l with
   | nil=>intro _;simp[filesOf]
   | cons f l ih=>
    intro h
    have i1:=ih fun x hx=>h x (by simp[hx])
    have i2:=chunksOf_len room hr0 _ f.data (di f.id) (4096*f.id) (Nat.le_refl _)
    have i3:=(h f (by simp)).data
    simp only[filesOf,List.map_cons,List.flatten_cons,List.length_append,List.length_cons,Nat.add_mul] at i1 ⊢
    omega
  have h1:=this (s.files.take k) fun f hf=>hs.files f (List.mem_of_mem_take hf)
  have h2:(s.files.take k).length≤12:=by simp;omega
  have h3:(s.files.take k).length*600≤12*600:=Nat.mul_le_mul_right _ h2
  omega
 refine goS_rule (fun t:F17.S16=>∃(k n m:Nat) (b:Bool) (l:List D),t=⟨(room:Int),b24,l25,b26,dl s.nn (s.files.map Fl.enc),nI s.files.length,(k:Int),s.enc,a,c,dS s1,(room:Int),0,0,n1,m1,n,m,s2,(room:Int),0,1000,n2,m2,b,l⟩∧k≤s.files.length∧RowIs n m l (L2++filesOf room (s.files.take k))) (fun t=>s.files.length-t.i93.toNat) Post ?_ _ _ ⟨0,n2,m2,b2,l2,rfl,by omega,by simpa[filesOf] using hw2⟩ (by simp[FUEL];omega)
 rintro _ rec ⟨k,n,m,b,l,rfl,hk,hw⟩ hrec
 simp only[F17.st16]
 have hmL:=hw.len
 have hfk:=hfl k
 rw[List.length_append,hL2] at hmL
 simp only[List.nil_append,List.length_append] at hmL
 by_cases hkl:k<s.files.length
 ·have hadd:ad .i64 (k:Int) 1=((k+1:Nat):Int):=by rw[ad64 (by omega) (by omega)];rfl
  have hfo:=hs.files _ (List.getElem_mem hkl)
  obtain⟨f,hfe⟩:∃f,f=s.files[k]:=⟨_,rfl⟩
  have hlast:=hs.last1
  have hi0:=hfo.id0
  have hi1:=hfo.id1
  have hda:=hfo.data
  refine pct (by simp;omega) (pct (by simp;omega) ?_)
  simp only[elems_slice,Int.toNat_natCast,ix_map hkl]
  rw[←hfe] at hi0 hi1 hda ⊢
  rw[show f.enc.at 2=dS f.data from rfl,show f.enc.at 0=di f.id from rfl,i_int,ml64 (by omega) (by omega)]
  refine chunk_loop (st:=F17.st110_1_10_25 FUEL) (mk:=fun i s' n m b l=>⟨i,s.enc,a,c,dS s1,(room:Int),0,0,n1,m1,n,m,s2,(room:Int),0,1000,n2,m2,f.enc,dS s',(room:Int),di f.id,4096*f.id,b,l⟩) (ex:=fun i s' n m b l=>.e0 s.enc a c (dS s1) (room:Int) 0 0 n1 m1 n m s2 (room:Int) 0 1000 n2 m2 f.enc (dS s') (room:Int) (di f.id) (4096*f.id) b l) (o:=di f.id) (lg:=4096*f.id) (fun _ _ _ _ _ _ _ _=>rfl) hr0 (by omega) _ f.data.size FUEL 0 f.data n m b l _ (by omega) (by simp only[FUEL];omega) (by omega) (by omega) hw (fun i3 s3 n3 m3 b3 l3 hw3=>?_)
  refine hrec _ ⟨k+1,n3,m3,b3,l3,?_,by omega,?_⟩ ?_
  ·rw[hadd]
  ·rw[filesOf_succ hkl,←hfe,←List.append_assoc]
   have e4:4096*f.id+((0:Nat):Int)=4096*f.id:=by omega
   rw[e4] at hw3
   exact hw3
  ·rw[hadd];simp;omega
 ·refine pcf (by simp;omega) ?_
  have hke:k=s.files.length:=by omega
  subst hke
  rw[List.take_length,hL2] at hw
  have e5:(0:Int)+((0:Nat):Int)=0:=rfl
  have e6:(1000:Int)+((0:Nat):Int)=1000:=rfl
  rw[e5,e6,List.nil_append] at hw
  by_cases h4:400<m
  ·exact pct (by simp;omega) h0
  ·refine pcf (by simp;omega) ?_
   rw[hw.eq]
   exact h1 b hd lg x2 hlgs (by have:=hw.len;unfold itemsOf;omega)
theorem tail_B (b24:Bool) (l25:List D) (b26:Bool) (a c:Nat) (b33:Bool) (l34:List D) (hf:Full l34 a c) (hc:c=lsz evs) (hb:b33=true→0<c):Post (putK (.e3 (dl nn (evs.map Ev.enc)) (room:Int) b24 l25 b26 s.enc a c b33 l34)):=by
 obtain⟨hd,x1,x2⟩:=head_spec s hs (nI evs.length)
 have hl1:=hs.len
 have hl2:=fsum_le hs.files
 have hl3:=nlen_le s.last
 have hl4:=nlen_le s.floor
 have hl5:=nlen_le (s.files.length:Int)
 have hl6:=nlen_le (nI evs.length)
 have hmul:s.files.length*6000≤12*6000:=Nat.mul_le_mul_right _ hl1
 have hhd:hd.size≤80000:=by rw[x2];unfold Go.AM.SY.hlen;omega
 have hls:=lsz_le evs hev
 have hmul2:evs.length*4209≤400*4209:=Nat.mul_le_mul_right _ hel
 show Post (bd (F60.s FUEL s.enc (nI (evs.map Ev.enc).length)) _)
 rw[List.length_map]
 refine pbd x1 ?_
 refine chunk_loop (st:=F17.st110_1_8_9 FUEL) (mk:=fun i s' n m b l=>⟨i,s.enc,a,c,b33,l34,dS s',(room:Int),0,0,n,m,b,l⟩) (ex:=fun i s' n m b l=>.e0 s.enc a c b33 l34 (dS s') (room:Int) 0 0 n m b l) (o:=di 0) (lg:=0) (fun _ _ _ _ _ _ _ _=>rfl) hr0 (by omega) _ hd.size FUEL 0 hd 0 0 false [] [] (by omega) (by simp only[FUEL];omega) (by omega) (by omega) ⟨rfl,rfl⟩ (fun i1 s1 n1 m1 b1 l1 hw1=>?_)
 have hk1:=chunksOf_len room hr0 _ hd (di 0) (0+((0:Nat):Int)) (Nat.le_refl _)
 have hm1:=hw1.len
 simp only[List.nil_append] at hm1
 refine pct (builder_ok hb (by omega)) (pct (by simp) (pct (by simp) ?_))
 obtain⟨lg,hlg⟩:∃lg,lg=ofBytes ((l34.drop a).take c):=⟨_,rfl⟩
 have hlgs:lg.size=lsz evs:=by rw[hlg,byte_size,full_len hf,hc]
 rw[←hlg]
 refine chunk_loop (st:=F17.st110_1_9_17_w2 FUEL) (mk:=fun i s' n m b l=>⟨i,s.enc,a,c,dS s1,(room:Int),0,0,n1,m1,n1,m1,s',(room:Int),0,1000,n,m,b,l⟩) (ex:=fun i s' n m b l=>.e0 s.enc a c (dS s1) (room:Int) 0 0 n1 m1 n1 m1 s' (room:Int) 0 1000 n m b l) (o:=di 0) (lg:=1000) (fun _ _ _ _ _ _ _ _=>rfl) hr0 (by omega) _ ((lg.size+7) / 8) FUEL 0 lg n1 m1 b1 l1 _ (by omega) (by simp only[FUEL];omega) (by omega) (by omega) hw1 (fun i2 s2 n2 m2 b2 l2 hw2=>?_)
 have hk2:=chunksOf_len room hr0 _ lg (di 0) (1000+((0:Nat):Int)) (Nat.le_refl _)
 have hm2:=hw2.len
 simp only[List.nil_append,List.length_append] at hm2
 have e0:s.enc.at 0=dl s.nn (s.files.map Fl.enc):=rfl
 show Post (goS (F17.st16_11_0 FUEL) FUEL ⟨(room:Int),b24,l25,b26,(s.enc.at 0),(nI (s.enc.at 0).elems.length),0,s.enc,a,c,dS s1,(room:Int),0,0,n1,m1,n2,m2,s2,(room:Int),0,1000,n2,m2,b2,l2⟩ _)
 rw[e0]
 simp only[elems_slice,List.length_map]
 obtain⟨L2,hL2⟩:∃L2,L2=[]++chunksOf room (di 0) (0+((0:Nat):Int)) hd++chunksOf room (di 0) (1000+((0:Nat):Int)) lg:=⟨_,rfl⟩
 rw[←hL2] at hw2
 have hfl:∀k,(filesOf room (s.files.take k)).length≤8000:=by
  intro k
  have:∀(l:List Fl),(∀f∈l,FlOk f s.last)→(filesOf room l).length≤l.length*600:=by
   intro l
   induction l with
   | nil=>intro _;simp[filesOf]
   | cons f l ih=>
    intro h
    have i1:=ih fun x hx=>h x (by simp[hx])
    have i2:=chunksOf_len room hr0 _ f.data (di f.id) (4096*f.id) (Nat.le_refl _)
    have i3:=(h f (by simp)).data
    simp only[filesOf,List.map_cons,List.flatten_cons,List.length_append,List.length_cons,Nat.add_mul] at i1 ⊢
    omega
  have h1:=this (s.files.take k) fun f hf=>hs.files f (List.mem_of_mem_take hf)
  have h2:(s.files.take k).length≤12:=by simp;omega
  have h3:(s.files.take k).length*600≤12*600:=Nat.mul_le_mul_right _ h2
  omega
 refine goS_rule (fun t:F17.S16_11_0=>∃(k n m:Nat) (b:Bool) (l:List D),t=⟨(room:Int),b24,l25,b26,dl s.nn (s.files.map Fl.enc),nI s.files.length,(k:Int),s.enc,a,c,dS s1,(room:Int),0,0,n1,m1,n,m,s2,(room:Int),0,1000,n2,m2,b,l⟩∧k≤s.files.length∧RowIs n m l (L2++filesOf room (s.files.take k))) (fun t=>s.files.length-t.i179.toNat) Post ?_ _ _ ⟨0,n2,m2,b2,l2,rfl,by omega,by simpa[filesOf] using hw2⟩ (by simp[FUEL];omega)
 rintro _ rec ⟨k,n,m,b,l,rfl,hk,hw⟩ hrec
 simp only[F17.st16_11_0]
 have hmL:=hw.len
 have hfk:=hfl k
 rw[List.length_append,hL2] at hmL
 simp only[List.nil_append,List.length_append] at hmL
 by_cases hkl:k<s.files.length
 ·have hadd:ad .i64 (k:Int) 1=((k+1:Nat):Int):=by rw[ad64 (by omega) (by omega)];rfl
  have hfo:=hs.files _ (List.getElem_mem hkl)
  obtain⟨f,hfe⟩:∃f,f=s.files[k]:=⟨_,rfl⟩
  have hlast:=hs.last1
  have hi0:=hfo.id0
  have hi1:=hfo.id1
  have hda:=hfo.data
  refine pct (by simp;omega) (pct (by simp;omega) ?_)
  simp only[elems_slice,Int.toNat_natCast,ix_map hkl]
  rw[←hfe] at hi0 hi1 hda ⊢
  rw[show f.enc.at 2=dS f.data from rfl,show f.enc.at 0=di f.id from rfl,i_int,ml64 (by omega) (by omega)]
  refine chunk_loop (st:=F17.st110_1_10_25_w2 FUEL) (mk:=fun i s' n m b l=>⟨i,s.enc,a,c,dS s1,(room:Int),0,0,n1,m1,n,m,s2,(room:Int),0,1000,n2,m2,f.enc,dS s',(room:Int),di f.id,4096*f.id,b,l⟩) (ex:=fun i s' n m b l=>.e0 s.enc a c (dS s1) (room:Int) 0 0 n1 m1 n m s2 (room:Int) 0 1000 n2 m2 f.enc (dS s') (room:Int) (di f.id) (4096*f.id) b l) (o:=di f.id) (lg:=4096*f.id) (fun _ _ _ _ _ _ _ _=>rfl) hr0 (by omega) _ f.data.size FUEL 0 f.data n m b l _ (by omega) (by simp only[FUEL];omega) (by omega) (by omega) hw (fun i3 s3 n3 m3 b3 l3 hw3=>?_)
  refine hrec _ ⟨k+1,n3,m3,b3,l3,?_,by omega,?_⟩ ?_
  ·rw[hadd]
  ·rw[filesOf_succ hkl,←hfe,←List.append_assoc]
   have e4:4096*f.id+((0:Nat):Int)=4096*f.id:=by omega
   rw[e4] at hw3
   exact hw3
  ·rw[hadd];simp;omega
 ·refine pcf (by simp;omega) ?_
  have hke:k=s.files.length:=by omega
  subst hke
  rw[List.take_length,hL2] at hw
  have e5:(0:Int)+((0:Nat):Int)=0:=rfl
  have e6:(1000:Int)+((0:Nat):Int)=1000:=rfl
  rw[e5,e6,List.nil_append] at hw
  by_cases h4:400<m
  ·exact pct (by simp;omega) h0
  ·refine pcf (by simp;omega) ?_
   rw[hw.eq]
   exact h1 b hd lg x2 hlgs (by have:=hw.len;unfold itemsOf;omega)
end
end Go.AM.SY
namespace Go.AM.SY
open Go Go.AM
section
variable {s:St} (hs:StOk s) (nn:Bool) (evs:List Ev) (hev:∀e∈evs,EvSm e) (hel:evs.length≤400) (room:Nat) (hr0:8≤room) (hr1:room≤224)
 {Post:Option D→Prop} (h0:Post (some (.tup [dl false [],db false])))
 (h1:∀(b:Bool) (hd lg:ByteArray),hd.size=Go.AM.SY.hlen s (nI evs.length)→lg.size=lsz evs→(itemsOf room s hd lg).length≤400→Post (some (.tup [dl b (itemsOf room s hd lg),db true])))
include hs hev hel hr0 hr1 h0 h1
theorem put_evs:Post (goS (F17.st6 FUEL) FUEL (.s0 (dl nn (evs.map Ev.enc)) (room:Int) false [] false (dl nn (evs.map Ev.enc)) (nI evs.length) 0 s.enc 0 0 false []) putK):=by
 have hls:=lsz_le evs hev
 have hmul2:evs.length*4209≤400*4209:=Nat.mul_le_mul_right _ hel
 refine goS_rule (fun t:F17.S6=>(t = .s0 (dl nn (evs.map Ev.enc)) (room:Int) false [] false (dl nn (evs.map Ev.enc)) (nI evs.length) 0 s.enc 0 0 false []) ∨
  ∃(k a:Nat) (b:Bool) (l:List D),t = .s1 (dl nn (evs.map Ev.enc)) (room:Int) false [] false (dl nn (evs.map Ev.enc)) (nI evs.length) (k:Int) s.enc a (lsz (evs.take k)) b l∧1≤k∧k≤evs.length∧Full l a (lsz (evs.take k))∧0<lsz (evs.take k))
  (fun t=>match t with | .s0 ..=>evs.length+1 | .s1 _ _ _ _ _ _ _ i _ _ _ _ _=>evs.length-i.toNat) Post ?_ _ _ (.inl rfl) (by simp[FUEL];omega)
 have one:∀(k:Nat) (h:k<evs.length),(∃b,F55.s FUEL evs[k].enc=some (.tup [dS b,db false]))∨∃t,F55.s FUEL evs[k].enc=some (.tup [dS (evBytes evs[k]),db true])∧F57.s FUEL (evBytes evs[k])=some (dS t)∧t.size=tlen (evBytes evs[k]).size:=by
  intro k h
  have he:=hev _ (List.getElem_mem h)
  have hen:=he.name
  rcases put_spec evs[k] (by omega) he.sum with p1 | ⟨b,p1,p2⟩
  ·exact .inl ⟨_,p1⟩
  ·have hb:evBytes evs[k]=b:=by unfold evBytes;rw[p2];rfl
   obtain⟨t,t1,t2⟩:=text_spec (evBytes evs[k]) (by have:=evBytes_le he;omega)
   exact .inr ⟨t,by rw[hb];exact p2,t1,t2⟩
 rintro _ rec (rfl | ⟨k,a,b,l,rfl,hk1,hk,hf,hpos⟩) hrec
 ·simp only[F17.st6]
  by_cases h5:0<evs.length
  ·refine pct (by simp;omega) (pct (by simp;omega) ?_)
   simp only[elems_slice,show (0:Int).toNat=0 from rfl,ix_map h5]
   rcases one 0 h5 with ⟨b,p⟩ | ⟨t,p1,p2,p3⟩
   ·exact pbd p (pct rfl h0)
   ·have ht:=tlen_le (evBytes evs[0]).size
    have hev0:=evBytes_le (hev _ (List.getElem_mem h5))
    refine pbd p1 (pcf rfl (pbd (x:=dS t) p2 (pct (by simp[byte_len];omega) ?_)))
    have hL:lsz (evs.take 1)=t.size:=by rw[lsz_succ h5,p3];simp[lsz]
    have hF:=full_ap (show Full [] 0 0 by simp[Full]) (bytesOf t)
    rw[byte_len] at hF
    have ha1:ad .i64 (0:Int) 1=((1:Nat):Int):=by rw[ad64 (by omega) (by omega)];rfl
    refine hrec _ (.inr ⟨1,0,false||!(bytesOf (dS t).s).isEmpty,ap ((([]:List D).drop 0).take 0) (bytesOf (dS t).s),?_,by omega,by omega,?_,by omega⟩) ?_
    ·rw[ha1,hL,Nat.zero_add]
     simp only[s_str,byte_len]
    ·rw[hL];simpa using hF
    ·show evs.length-(ad .i64 (0:Int) 1).toNat<evs.length+1
     omega
  ·have hnil:evs=[]:=List.eq_nil_of_length_eq_zero (by omega)
   refine pcf (by simp;omega) ?_
   exact tail_A hs nn evs hev hel room hr0 hr1 h0 h1 false [] false 0 0 false [] (by simp[Full]) (by rw[hnil];rfl) (by simp)
 ·simp only[F17.st6]
  have hlt:=lsz_take_le evs k
  by_cases h5:k<evs.length
  ·have hadd:ad .i64 (k:Int) 1=((k+1:Nat):Int):=by rw[ad64 (by omega) (by omega)];rfl
   refine pct (by simp;omega) (pct (by simp;omega) ?_)
   simp only[elems_slice,Int.toNat_natCast,ix_map h5]
   rcases one k h5 with ⟨b',p⟩ | ⟨t,p1,p2,p3⟩
   ·exact pbd p (pct rfl h0)
   ·have ht:=tlen_le (evBytes evs[k]).size
    have hev0:=evBytes_le (hev _ (List.getElem_mem h5))
    refine pbd p1 (pcf rfl (pbd (x:=dS t) p2 (pct (by simp[byte_len];omega) ?_)))
    have hF:=full_ap hf (bytesOf t)
    rw[byte_len] at hF
    have hL:lsz (evs.take (k+1))=lsz (evs.take k)+t.size:=by rw[lsz_succ h5,p3]
    refine hrec _ (.inr ⟨k+1,0,b||!(bytesOf (dS t).s).isEmpty,ap ((l.drop a).take (lsz (evs.take k))) (bytesOf (dS t).s),?_,by omega,by omega,?_,by omega⟩) ?_
    ·rw[hadd,hL]
     simp only[s_str,byte_len]
    ·rw[hL];exact hF
    ·show evs.length-(ad .i64 (k:Int) 1).toNat<evs.length-(k:Int).toNat
     rw[hadd];simp;omega
  ·refine pcf (by simp;omega) ?_
   have hke:k=evs.length:=by omega
   subst hke
   rw[List.take_length] at hf hpos ⊢
   exact tail_B hs nn evs hev hel room hr0 hr1 h0 h1 false [] false a _ b l hf rfl (fun _=>hpos)
end
theorem put_items {s:St} (hs:StOk s) (nn:Bool) (evs:List Ev) (hev:∀e∈evs,EvSm e) (room:Int) {Post:Option D→Prop} (h0:Post (some (.tup [dl false [],db false])))
  (h1:∀(r:Nat),room=(r:Int)→8≤r→r≤224→evs.length≤400→∀(b:Bool) (hd lg:ByteArray),hd.size=hlen s (nI evs.length)→lg.size=lsz evs→(itemsOf r s hd lg).length≤400→Post (some (.tup [dl b (itemsOf r s hd lg),db true]))) :
  Post (F17.s FUEL s.enc (dl nn (evs.map Ev.enc)) room):=by
 have hl:=hs.len
 unfold F17.s
 refine pbd (valid_state hs) (pcf rfl ?_)
 by_cases c1:room<8
 ·exact pct (by simpa using c1) h0
 refine pcf (by simp;omega) ?_
 by_cases c2:224<room
 ·exact pct (by simpa using c2) h0
 refine pcf (by simp;omega) ?_
 simp only[elems_slice,List.length_map]
 by_cases c3:400<evs.length
 ·exact pct (by simp;omega) h0
 refine pcf (by simp;omega) ?_
 obtain⟨r,hr⟩:∃r:Nat,room=(r:Int):=⟨room.toNat,by omega⟩
 have rest:Post (goS (F17.st6 FUEL) FUEL (.s0 (dl nn (evs.map Ev.enc)) room false [] false (dl nn (evs.map Ev.enc)) (nI evs.length) 0 s.enc 0 0 false []) putK):=by
  rw[hr]
  exact put_evs hs nn evs hev (by omega) r (by omega) (by omega) h0 (h1 r hr (by omega) (by omega) (by omega))
 have e0:s.enc.at 0=dl s.nn (s.files.map Fl.enc):=rfl
 rw[e0]
 simp only[elems_slice,List.length_map]
 refine goS_rule (fun t:F17.S78_2=>∃k:Nat,t=⟨dl s.nn (s.files.map Fl.enc),nI s.files.length,(k:Int),s.enc⟩∧k≤s.files.length) (fun t=>s.files.length-t.i4.toNat) Post ?_ _ _ ⟨0,rfl,by omega⟩ (by simp[FUEL];omega)
 rintro _ rec ⟨k,rfl,hk⟩ hrec
 simp only[F17.st78_2]
 by_cases h5:k<s.files.length
 ·have hadd:ad .i64 (k:Int) 1=((k+1:Nat):Int):=by rw[ad64 (by omega) (by omega)];rfl
  refine pct (by simp;omega) (pct (by simp;omega) ?_)
  simp only[elems_slice,Int.toNat_natCast,ix_map h5]
  have h52:F52.s FUEL s.files[k].enc=some (db (gtI s.files[k].id 134217728)):=rfl
  refine pbd h52 ?_
  by_cases c4:gtI s.files[k].id 134217728=true
  ·refine pct c4 ?_
   exact pct (by simp) h0
  ·refine pcf (by simpa using c4) ?_
   rw[hadd]
   exact hrec _ ⟨k+1,rfl,by omega⟩ (by simp;omega)
 ·refine pcf (by simp;omega) ?_
  exact rest
end Go.AM.SY
namespace Go.AM.SY
open Go Go.AM
structure It where
 lg:Int
 own:D
 tx:ByteArray
def It.enc (x:It):D:=item x.lg x.own x.tx
def chT (room:Nat) (o:D) (lg:Int) (s:ByteArray):List It:=
 if h:s.size=0∨room=0 then [] else ⟨lg,o,s.extract 0 (min room s.size)⟩::chT room o (lg+1) (s.extract (min room s.size) s.size)
termination_by s.size
decreasing_by simp[ByteArray.size_extract];omega
theorem chunksOf_eq (room:Nat) (o:D):∀(n:Nat) (lg:Int) (s:ByteArray),s.size≤n→chunksOf room o lg s=(chT room o lg s).map It.enc:=by
 intro n
 induction n with
 | zero=>
  intro lg s h
  have h0:s.size=0:=by omega
  rw[chunksOf,chT,dif_pos (.inl h0),dif_pos (.inl h0)];rfl
 | succ n ih=>
  intro lg s h
  rw[chunksOf,chT]
  split
  ·rfl
  ·rename_i h0
   rw[ih _ _ (by rw[ByteArray.size_extract];omega)]
   rfl
theorem chT_nil {room:Nat} {o:D} {lg:Int} {s:ByteArray} (h:s.size=0):chT room o lg s=[]:=by rw[chT,dif_pos (.inl h)]
theorem chT_get {room:Nat} (hr:8≤room) (o:D):∀(n:Nat) (lg:Int) (s:ByteArray),s.size≤n→∀(i:Nat) (h:i<(chT room o lg s).length),
  (chT room o lg s)[i].lg=lg+i∧(chT room o lg s)[i].own=o∧0<(chT room o lg s)[i].tx.size∧(chT room o lg s)[i].tx.size≤room∧(i+1<(chT room o lg s).length→(chT room o lg s)[i].tx.size=room):=by
 intro n
 induction n with
 | zero=>
  intro lg s hs i h
  rw[chT_nil (by omega)] at h
  simp at h
 | succ n ih=>
  intro lg s hs i h
  by_cases h0:s.size=0
  ·rw[chT_nil h0] at h;simp at h
  ·have hrest:(s.extract (min room s.size) s.size).size≤n:=by rw[ByteArray.size_extract];omega
   have e:chT room o lg s=⟨lg,o,s.extract 0 (min room s.size)⟩::chT room o (lg+1) (s.extract (min room s.size) s.size):=by
    rw[chT,dif_neg (by omega)]
   simp only[e] at h ⊢
   cases i with
   | zero=>
    simp only[List.getElem_cons_zero,List.length_cons]
    refine⟨by omega,trivial,?_,?_,fun h2=>?_⟩
    ·rw[ByteArray.size_extract];omega
    ·rw[ByteArray.size_extract];omega
    ·rw[ByteArray.size_extract]
     have:¬(s.extract (min room s.size) s.size).size=0:=by
      intro h3
      rw[chT_nil h3] at h2
      simp at h2
     rw[ByteArray.size_extract] at this
     omega
   | succ i=>
    simp only[List.getElem_cons_succ,List.length_cons] at h ⊢
    have:=ih (lg+1) _ hrest i (by simpa using h)
    refine⟨by rw[this.1];omega,this.2.1,this.2.2.1,this.2.2.2.1,fun h2=>this.2.2.2.2 (by omega)⟩
structure Row (room:Nat) (l:List It):Prop where
 pos:∀x∈l,0<x.tx.size∧x.tx.size≤room
 next:∀(i:Nat) (h:i+1<l.length),l[i].lg<l[i+1].lg∧(l[i+1].lg=l[i].lg+1→l[i].tx.size=room)
theorem Row.nil {room:Nat}:Row room []:=⟨by simp,by simp⟩
theorem Row.append {room:Nat} {a b:List It} {m:Int} (ha:Row room a) (hb:Row room b) (h1:∀x∈a,x.lg+1<m) (h2:∀x∈b,m≤x.lg):Row room (a++b):=by
 refine⟨fun x hx=>?_,fun i h=>?_⟩
 ·rcases List.mem_append.1 hx with hx | hx
  ·exact ha.pos x hx
  ·exact hb.pos x hx
 ·rw[List.length_append] at h
  by_cases c1:i+1<a.length
  ·rw[List.getElem_append_left c1,List.getElem_append_left (by omega)]
   exact ha.next i c1
  ·by_cases c2:i<a.length
   ·rw[List.getElem_append_left c2,List.getElem_append_right (by omega)]
    have g1:=h1 _ (List.getElem_mem c2)
    have g2:=h2 _ (List.getElem_mem (l:=b) (n:=i+1-a.length) (by omega))
    exact⟨by omega,by omega⟩
   ·rw[List.getElem_append_right (by omega),List.getElem_append_right (by omega)]
    have:=hb.next (i-a.length) (by omega)
    have e:i+1-a.length=i-a.length+1:=by omega
    simp only[e]
    exact this
theorem row_ch {room:Nat} (hr:8≤room) (o:D) (lg:Int) (s:ByteArray):Row room (chT room o lg s):=by
 have hg:=chT_get hr o s.size lg s (Nat.le_refl _)
 refine⟨fun x hx=>?_,fun i h=>?_⟩
 ·obtain⟨i,hi,rfl⟩:=List.getElem_of_mem hx
  have:=hg i hi
  exact⟨this.2.2.1,this.2.2.2.1⟩
 ·have a:=hg i (by omega)
  have b:=hg (i+1) h
  exact⟨by rw[a.1,b.1];omega,fun _=>a.2.2.2.2 h⟩
theorem ch_range {room:Nat} (hr:8≤room) (o:D) (lg:Int) (s:ByteArray):∀x∈chT room o lg s,lg≤x.lg∧x.lg<lg+(chT room o lg s).length∧x.own=o:=by
 intro x hx
 obtain⟨i,hi,rfl⟩:=List.getElem_of_mem hx
 have:=chT_get hr o s.size lg s (Nat.le_refl _) i hi
 exact⟨by rw[this.1];omega,by rw[this.1];omega,this.2.1⟩
def filesT (room:Nat) (l:List Fl):List It:=(l.map fun f=>chT room (di f.id) (4096*f.id) f.data).flatten
def itemsT (room:Nat) (s:St) (hd lg:ByteArray):List It:=chT room (di 0) 0 hd++chT room (di 0) 1000 lg++filesT room s.files
theorem filesOf_eq (room:Nat):∀l:List Fl,filesOf room l=(filesT room l).map It.enc
 | []=>rfl
 | f::l=>by
  have:=filesOf_eq room l
  simp only[filesOf,filesT,List.map_cons,List.flatten_cons,List.map_append] at this ⊢
  rw[this,chunksOf_eq _ _ _ _ _ (Nat.le_refl _)]
theorem itemsOf_eq (room:Nat) (s:St) (hd lg:ByteArray):itemsOf room s hd lg=(itemsT room s hd lg).map It.enc:=by
 unfold itemsOf itemsT
 rw[chunksOf_eq _ _ _ _ _ (Nat.le_refl _),chunksOf_eq _ _ _ _ _ (Nat.le_refl _),filesOf_eq,List.map_append,List.map_append]
theorem filesT_row {room:Nat} (hr:8≤room):∀(l:List Fl),(l.Pairwise fun a b=>a.id<b.id)→(filesT room l).length≤400→Row room (filesT room l)∧∀x∈filesT room l,∀m:Int,(∀f∈l,m≤f.id)→4096*m≤x.lg
 | [],_,_=>⟨Row.nil,by simp[filesT]⟩
 | f::l,h,hl=>by
  obtain⟨h1,h2⟩:=List.pairwise_cons.1 h
  have e:filesT room (f::l)=chT room (di f.id) (4096*f.id) f.data++filesT room l:=rfl
  rw[e,List.length_append] at hl
  obtain⟨i1,i2⟩:=filesT_row hr l h2 (by omega)
  have hc:=ch_range hr (di f.id) (4096*f.id) f.data
  rw[e]
  refine⟨(row_ch hr _ _ _).append (m:=4096*(f.id+1)) i1 (fun x hx=>?_) (fun x hx=>i2 x hx _ fun g hg=>?_),fun x hx m hm=>?_⟩
  ·have:=hc x hx;omega
  ·have:=h1 g hg;omega
  ·rcases List.mem_append.1 hx with hx | hx
   ·have:=hc x hx
    have:=hm f (by simp)
    omega
   ·exact i2 x hx m fun g hg=>hm g (by simp[hg])
theorem items_row {room:Nat} (hr:8≤room) {s:St} (hs:StOk s) {hd lg:ByteArray} (hl:(itemsT room s hd lg).length≤400):Row room (itemsT room s hd lg):=by
 unfold itemsT at hl ⊢
 rw[List.length_append,List.length_append] at hl
 have c1:=ch_range hr (di 0) 0 hd
 have c2:=ch_range hr (di 0) 1000 lg
 obtain⟨f1,f2⟩:=filesT_row hr s.files hs.rise (by omega)
 refine((row_ch hr _ _ _).append (m:=1000) (row_ch hr _ _ _) (fun x hx=>?_) (fun x hx=>(c2 x hx).1)).append (m:=4096) f1 (fun x hx=>?_) (fun x hx=>?_)
 ·have:=c1 x hx;omega
 ·rcases List.mem_append.1 hx with hx | hx
  ·have:=c1 x hx;omega
  ·have:=c2 x hx;omega
 ·have:=f2 x hx 1 fun f hf=>(hs.files f hf).id0
  omega
theorem run_facts:∀(l:List Mo) (r:Run),StOk r.st→(∀o∈l,MoOk o)→(∀e∈r.evs,evB e=true∧EvSm e) →
  StOk (runFrom shaL l r).st∧(∀e∈(runFrom shaL l r).evs,evB e=true∧EvSm e)∧(runFrom shaL l r).evs.length≤r.evs.length+12*l.length
 | [],r,h,_,he=>⟨h,he,by simp[runFrom]⟩
 | o::l,r,h,hl,he=>by
  have ho:=hl o (by simp)
  have h1:=do_events shaL_len h ho
  have h2:=do_evs_len (sum:=shaL) (o:=o) h
  have:=run_facts l ⟨(doM shaL r.st o).st,true,r.ans++[(doM shaL r.st o).an],r.nnE||!(doM shaL r.st o).evs.isEmpty,r.evs++(doM shaL r.st o).evs⟩ (do_ok (sum:=shaL) h ho) (fun x hx=>hl x (by simp[hx])) (fun e hee=>by
   rcases List.mem_append.1 hee with hee | hee
   ·exact he e hee
   ·exact⟨(h1 e hee).1,(h1 e hee).2.1,(h1 e hee).2.2⟩)
  simp only[List.length_append,List.length_cons] at this ⊢
  rw[runFrom]
  refine⟨this.1,this.2.1,?_⟩
  have:=this.2.2
  omega
end Go.AM.SY
namespace Go.AM.SY
open Go Go.AM
def itEq (x y:It):Bool:=x.lg==y.lg&&(x.own.i==y.own.i&&x.tx==y.tx)
theorem eqv_item {x y:It} (hx:x.own=di x.own.i) (hy:y.own=di y.own.i):D.eqv ty eqDepth x.enc y.enc (.struct [3,3,9])=some (itEq x y):=by
 obtain⟨a,o,t⟩:=x
 obtain⟨b,p,u⟩:=y
 simp only at hx hy
 have hk:List.map ty [3,3,9]=[.int .i64,.int .i64,.str]:=rfl
 have e1:∀x y:Int,D.eqv ty 15 (.int .i64 x) (.int .i64 y) (.int .i64)=some (x==y):=fun _ _=>rfl
 have e2:∀x y:ByteArray,D.eqv ty 15 (.str x) (.str y) .str=some (x==y):=fun _ _=>rfl
 rw[hx,hy]
 have e0:D.eqv ty eqDepth (It.enc ⟨a,di o.i,t⟩) (It.enc ⟨b,di p.i,u⟩) (.struct [3,3,9])=eqvs (D.eqv ty 15) [di a,di o.i,dS t] [di b,di p.i,dS u] (List.map ty [3,3,9]):=rfl
 rw[e0,hk]
 simp only[eqvs,e1,e2,itEq,i_int]
 cases a==b
 ·rfl
 cases o.i==p.i
 ·rfl
 cases t==u<;>rfl
theorem find_item (b:Bool) (A:List It) (lg:Int) (hl:A.length≤1000):F73.s FUEL (dl b (A.map It.enc)) lg=some (di (findI (fun x:It=>decide (x.lg=lg)) A)):=by
 unfold F73.s
 simp only[elems_slice,List.length_map]
 refine goS_rule (fun t:F73.S74_2=>∃k:Nat,t=⟨dl b (A.map It.enc),nI A.length,(k:Int),lg⟩∧k≤A.length∧∀i (h:i<A.length),i<k→decide (A[i].lg=lg)=false) (fun t=>A.length-t.i3.toNat) (fun o=>o=some (di (findI (fun x:It=>decide (x.lg=lg)) A))) ?_ _ _ ⟨0,rfl,by omega,by omega⟩ (by simp[FUEL];omega)
 rintro _ rec ⟨k,rfl,hk,hs⟩ hrec
 simp only[F73.st74_2]
 by_cases h1:k<A.length
 ·refine ct (by simp;omega) (ct (by simp;omega) ?_)
  simp only[elems_slice,Int.toNat_natCast,ix_map h1]
  have hlg:(A[k].enc.at 0).i=A[k].lg:=rfl
  rw[hlg]
  by_cases h2:A[k].lg=lg
  ·refine ct (by simpa using h2) ?_
   rw[findI,findIdx_some_of h1 hs (by simpa using h2)]
  ·refine cf (by simpa using h2) (hrec _ ⟨k+1,?_,by omega,?_⟩ ?_)
   ·rw[ad64 (by omega) (by omega)];rfl
   ·intro i hi hik
    by_cases hik':i=k
    ·subst hik';simpa using h2
    ·exact hs i hi (by omega)
   ·rw[ad64 (by omega) (by omega)];simp;omega
 ·refine cf (by simp;omega) ?_
  rw[findI,findIdx_none_of (fun i hi=>hs i hi (by omega))]
def hasL (l:List It) (lg:Int):Bool:=l.any fun x=>decide (x.lg=lg)
def sameIn (A:List It) (x:It):Bool:=match A.find? fun a=>decide (a.lg=x.lg) with | some a=>itEq a x | none=>false
def dropE (x:It):D:=da [da [di x.lg,di 0,dS (bs [])],db true]
def putE (x:It):D:=da [x.enc,db false]
def drops (A B:List It):List It:=A.filter fun x=>!hasL B x.lg
def puts (A B:List It):List It:=B.filter fun x=>!sameIn A x
theorem drops_succ {A B:List It} {k:Nat} (h:k<A.length):drops (A.take (k+1)) B=if hasL B A[k].lg=true then drops (A.take k) B else drops (A.take k) B++[A[k]]:=by
 unfold drops
 rw[List.take_succ_eq_append_getElem h,List.filter_append]
 cases hh:hasL B A[k].lg<;>simp[hh]
theorem puts_succ {A B:List It} {k:Nat} (h:k<B.length):puts A (B.take (k+1))=if sameIn A B[k]=true then puts A (B.take k) else puts A (B.take k)++[B[k]]:=by
 unfold puts
 rw[List.take_succ_eq_append_getElem h,List.filter_append]
 cases hh:sameIn A B[k]<;>simp[hh]
theorem findI_neg {l:List It} {lg:Int}:findI (fun x:It=>decide (x.lg=lg)) l<0↔hasL l lg=false:=by
 have:=findI_nonneg (p:=fun x:It=>decide (x.lg=lg)) (l:=l)
 unfold hasL
 constructor
 ·intro h
  cases hh:l.any fun x=>decide (x.lg=lg) with
  | false=>rfl
  | true=>have:=this.2 hh;omega
 ·intro h
  rcases Int.lt_or_le (findI (fun x:It=>decide (x.lg=lg)) l) 0 with h1 | h1
  ·exact h1
  ·have:=this.1 h1;rw[this] at h;cases h
theorem find_place {A:List It} {lg:Int} (h:0≤findI (fun x:It=>decide (x.lg=lg)) A):∃(i:Nat) (hi:i<A.length),findI (fun x:It=>decide (x.lg=lg)) A=i∧A.find? (fun a=>decide (a.lg=lg))=some A[i]:=by
 unfold findI at h ⊢
 cases hf:A.findIdx? (fun x:It=>decide (x.lg=lg)) with
 | none=>rw[hf] at h;simp at h
 | some i=>
  obtain⟨hi,h1,h2⟩:=List.findIdx?_eq_some_iff_getElem.1 hf
  refine⟨i,hi,rfl,?_⟩
  rw[List.find?_eq_some_iff_getElem]
  exact⟨h1,i,hi,rfl,fun j hj=>by simpa using h2 j hj⟩
theorem sameIn_neg {A:List It} {x:It} (h:findI (fun y:It=>decide (y.lg=x.lg)) A<0):sameIn A x=false:=by
 have h1:=findI_neg.1 h
 unfold sameIn
 have:A.find? (fun a=>decide (a.lg=x.lg))=none:=by
  rw[List.find?_eq_none]
  intro y hy
  have:=List.any_eq_false.1 h1 y hy
  simpa using this
 rw[this]
theorem diff_spec (b1 b2:Bool) (A B:List It) (hA:A.length≤400) (hB:B.length≤400) (oA:∀x∈A,x.own=di x.own.i) (oB:∀x∈B,x.own=di x.own.i) :
  ∃b,F27.s FUEL (dl b1 (A.map It.enc)) (dl b2 (B.map It.enc))=some (.slice b ((drops A B).map dropE++(puts A B).map putE)):=by
 suffices h:∀Post:Option D→Prop,(∀b,Post (some (.slice b ((drops A B).map dropE++(puts A B).map putE))))→Post (F27.s FUEL (dl b1 (A.map It.enc)) (dl b2 (B.map It.enc))) from h (fun o=>∃b,o=some (.slice b ((drops A B).map dropE++(puts A B).map putE))) fun b=>⟨b,rfl⟩
 intro Post hPost
 unfold F27.s
 simp only[elems_slice,List.length_map]
 have hdl:∀k,(drops (A.take k) B).length≤400:=fun k=>Nat.le_trans (List.length_filter_le _ _) (by simp;omega)
 have hpl:∀k,(puts A (B.take k)).length≤400:=fun k=>Nat.le_trans (List.length_filter_le _ _) (by simp;omega)
 have hrow:∀{l:List D} {n:Nat} (L:List D) (x:D),(n=0∧l=L∨n=0∧l=L)→L.length≤100000→True:=fun _ _ _ _=>trivial
 refine goS_rule (fun t:F27.S4=>∃(k:Nat) (b:Bool),t=⟨dl b1 (A.map It.enc),dl b2 (B.map It.enc),0,(drops (A.take k) B).length,dl b1 (A.map It.enc),nI A.length,(k:Int),b,(drops (A.take k) B).map dropE⟩∧k≤A.length) (fun t=>A.length-t.i7.toNat) Post ?_ _ _ ⟨0,false,rfl,by omega⟩ (by simp[FUEL];omega)
 rintro _ rec ⟨k,b,rfl,hk⟩ hrec
 simp only[F27.st4]
 by_cases h1:k<A.length
 ·have hadd:ad .i64 (k:Int) 1=((k+1:Nat):Int):=by rw[ad64 (by omega) (by omega)];rfl
  have hk4:=hdl k
  refine pct (by simp;omega) (pct (by simp;omega) ?_)
  simp only[elems_slice,Int.toNat_natCast,ix_map h1]
  have hlg:(A[k].enc.at 0).i=A[k].lg:=rfl
  rw[hlg]
  refine pbd (find_item b2 B A[k].lg (by omega)) ?_
  by_cases h2:findI (fun x:It=>decide (x.lg=A[k].lg)) B<0
  ·refine pct (by simpa using h2) (pct (by simp;omega) ?_)
   have hh:=findI_neg.1 h2
   have hs:=drops_succ (B:=B) h1
   rw[if_neg (by rw[hh];simp)] at hs
   refine hrec _ ⟨k+1,b||true,?_,by omega⟩ (by rw[hadd];simp;omega)
   rw[F27.S4.mk.injEq]
   refine⟨rfl,rfl,rfl,by rw[hs];simp,rfl,rfl,hadd,rfl,?_⟩
   rw[hs,List.map_append,List.drop_zero,List.take_of_length_le (by simp),ap]
   rfl
  ·refine pcf (by simpa using h2) ?_
   have hh:hasL B A[k].lg=true:=by
    cases hb:hasL B A[k].lg with
    | true=>rfl
    | false=>exact absurd (findI_neg.2 hb) h2
   have hs:=drops_succ (B:=B) h1
   rw[if_pos hh] at hs
   refine hrec _ ⟨k+1,b,?_,by omega⟩ (by rw[hadd];simp;omega)
   rw[hadd,hs]
 ·refine pcf (by simp;omega) ?_
  have hke:k=A.length:=by omega
  subst hke
  rw[List.take_length]
  obtain⟨DR,hDR⟩:∃DR,DR=(drops A B).map dropE:=⟨_,rfl⟩
  have hDl:(drops A B).length=DR.length:=by rw[hDR];simp
  have hD4:DR.length≤400:=by rw[←hDl];have:=hdl A.length;rwa [List.take_length] at this
  rw[hDl,←hDR]
  rw[←hDR] at hPost
  refine goS_rule (fun t:F27.S10=>∃(k:Nat) (b:Bool),t=⟨dl b1 (A.map It.enc),0,DR.length+(puts A (B.take k)).length,dl b2 (B.map It.enc),nI B.length,(k:Int),b,DR++(puts A (B.take k)).map putE⟩∧k≤B.length) (fun t=>B.length-t.i16.toNat) Post ?_ _ _ ⟨0,b,by simp[puts],by omega⟩ (by simp[FUEL];omega)
  rintro _ rec ⟨k,b,rfl,hk⟩ hrec
  simp only[F27.st10]
  by_cases h1:k<B.length
  ·have hadd:ad .i64 (k:Int) 1=((k+1:Nat):Int):=by rw[ad64 (by omega) (by omega)];rfl
   have hk4:=hpl k
   refine pct (by simp;omega) (pct (by simp;omega) ?_)
   simp only[elems_slice,Int.toNat_natCast,ix_map h1,List.length_map]
   have hlg:(B[k].enc.at 0).i=B[k].lg:=rfl
   rw[hlg]
   have hnew:sameIn A B[k]=false→∀b',Post (rec ⟨dl b1 (A.map It.enc),0,(DR.length+(puts A (B.take k)).length)+1,dl b2 (B.map It.enc),nI B.length,(ad .i64 (k:Int) 1),b',(ap (((DR++(puts A (B.take k)).map putE).drop 0).take (DR.length+(puts A (B.take k)).length)) [(da [B[k].enc,(db false)])])⟩):=by
    intro hh b'
    have hs:=puts_succ (A:=A) h1
    rw[if_neg (by rw[hh];simp)] at hs
    refine hrec _ ⟨k+1,b',?_,by omega⟩ (by rw[hadd];simp;omega)
    rw[F27.S10.mk.injEq]
    refine⟨rfl,rfl,by rw[hs];simp;omega,rfl,rfl,hadd,rfl,?_⟩
    rw[hs,List.map_append,List.drop_zero,List.take_of_length_le (by simp),ap,List.append_assoc]
    rfl
   refine pbd (find_item b1 A B[k].lg (by omega)) ?_
   by_cases h2:findI (fun x:It=>decide (x.lg=B[k].lg)) A<0
   ·exact pct (by simpa using h2) (pct (by simp;omega) (hnew (sameIn_neg h2) _))
   ·refine pcf (by simpa using h2) ?_
    obtain⟨i,hi,e1,e2⟩:=find_place (by omega:0≤findI (fun x:It=>decide (x.lg=B[k].lg)) A)
    rw[e1]
    refine pct (by simp;omega) ?_
    have hsm:sameIn A B[k]=itEq A[i] B[k]:=by unfold sameIn;rw[e2]
    simp only[i_int,Int.toNat_natCast,ix_map hi]
    rw[eqv_item (oA _ (List.getElem_mem hi)) (oB _ (List.getElem_mem h1))]
    refine pbd rfl ?_
    cases hq:itEq A[i] B[k] with
    | false=>exact pct (by simp) (pct (by simp;omega) (hnew (by rw[hsm,hq]) _))
    | true=>
     refine pcf (by simp) ?_
     have hs:=puts_succ (A:=A) h1
     rw[if_pos (by rw[hsm,hq])] at hs
     refine hrec _ ⟨k+1,b,?_,by omega⟩ (by rw[hadd];simp;omega)
     rw[hadd,hs]
  ·refine pcf (by simp;omega) ?_
   have hke:k=B.length:=by omega
   subst hke
   rw[List.take_length]
   refine pct (by simp) (hPost b)
end Go.AM.SY
namespace Go.AM.SY
open Go Go.AM
theorem chT_sz {room:Nat} (hr:8≤room) (o:D):∀(n:Nat) (lg:Int) (s:ByteArray),s.size≤n→∀i:Nat,(i<(chT room o lg s).length↔i*room<s.size)∧∀h:i<(chT room o lg s).length,(chT room o lg s)[i].tx.size=min room (s.size-i*room):=by
 intro n
 induction n with
 | zero=>
  intro lg s hs i
  rw[chT_nil (by omega)]
  exact⟨by simp;omega,fun h=>by simp at h⟩
 | succ n ih=>
  intro lg s hs i
  by_cases h0:s.size=0
  ·rw[chT_nil h0]
   exact⟨by simp;omega,fun h=>by simp at h⟩
  ·have hrest:(s.extract (min room s.size) s.size).size≤n:=by rw[ByteArray.size_extract];omega
   have e:chT room o lg s=⟨lg,o,s.extract 0 (min room s.size)⟩::chT room o (lg+1) (s.extract (min room s.size) s.size):=by
    rw[chT,dif_neg (by omega)]
   simp only[e]
   cases i with
   | zero=>
    refine⟨by simp;omega,fun h=>?_⟩
    simp only[List.getElem_cons_zero]
    rw[ByteArray.size_extract]
    omega
   | succ i=>
    obtain⟨h1,h2⟩:=ih (lg+1) _ hrest i
    rw[ByteArray.size_extract] at h1 h2
    simp only[List.length_cons,List.getElem_cons_succ]
    have hm:(i+1)*room=i*room+room:=by rw[Nat.add_mul];omega
    refine⟨⟨fun h=>?_,fun h=>?_⟩,fun h=>?_⟩
    ·have:=h1.1 (by omega);omega
    ·have:=h1.2 (by omega);omega
    ·rw[h2 (by omega)]
     omega
theorem ch_mem {room:Nat} (hr:8≤room) {o:D} {lg:Int} {s:ByteArray} {x:It} (h:x∈chT room o lg s):∃j:Nat,j*room<s.size∧x.lg=lg+j∧x.own=o∧x.tx.size=min room (s.size-j*room):=by
 obtain⟨j,hj,rfl⟩:=List.getElem_of_mem h
 obtain⟨h1,h2⟩:=chT_sz hr o s.size lg s (Nat.le_refl _) j
 have h3:=chT_get hr o s.size lg s (Nat.le_refl _) j hj
 exact⟨j,h1.1 hj,h3.1,h3.2.1,h2 hj⟩
theorem ch_at {room:Nat} (hr:8≤room) (o:D) (lg:Int) {s:ByteArray} {j:Nat} (h:j*room<s.size):∃x∈chT room o lg s,x.lg=lg+j∧x.own=o∧x.tx.size=min room (s.size-j*room):=by
 obtain⟨h1,h2⟩:=chT_sz hr o s.size lg s (Nat.le_refl _) j
 have hj:=h1.2 h
 have h3:=chT_get hr o s.size lg s (Nat.le_refl _) j hj
 exact⟨_,List.getElem_mem hj,h3.1,h3.2.1,h2 hj⟩
theorem items_mem {room:Nat} {s:St} {hd lg:ByteArray} {x:It}:x∈itemsT room s hd lg↔x∈chT room (di 0) 0 hd∨x∈chT room (di 0) 1000 lg∨∃f∈s.files,x∈chT room (di f.id) (4096*f.id) f.data:=by
 unfold itemsT filesT
 simp only[List.mem_append,List.mem_flatten,List.mem_map]
 constructor
 ·rintro((h | h) | ⟨l,⟨f,hf,rfl⟩,h⟩)
  ·exact .inl h
  ·exact .inr (.inl h)
  ·exact .inr (.inr ⟨f,hf,h⟩)
 ·rintro(h | h | ⟨f,hf,h⟩)
  ·exact .inl (.inl h)
  ·exact .inl (.inr h)
  ·exact .inr ⟨_,⟨f,hf,rfl⟩,h⟩
theorem items_own {room:Nat} (hr:8≤room) {s:St} {hd lg:ByteArray}:∀x∈itemsT room s hd lg,x.own=di x.own.i:=by
 intro x hx
 rcases items_mem.1 hx with h | h | ⟨f,_,h⟩
 ·rw[(ch_range hr _ _ _ x h).2.2];rfl
 ·rw[(ch_range hr _ _ _ x h).2.2];rfl
 ·rw[(ch_range hr _ _ _ x h).2.2];rfl
theorem Row.rise {room:Nat} {l:List It} (h:Row room l):∀(d i:Nat) (hj:i+d+1<l.length),l[i].lg<l[i+d+1].lg
 | 0,i,hj=>(h.next i hj).1
 | d+1,i,hj=>by
  have h1:=Row.rise h d i (by omega)
  have h2:=(h.next (i+d+1) (by omega)).1
  have e:i+(d+1)+1=i+d+1+1:=by omega
  simp only[e]
  omega
theorem Row.one {room:Nat} {l:List It} (h:Row room l) {x y:It} (hx:x∈l) (hy:y∈l) (he:x.lg=y.lg):x=y:=by
 obtain⟨i,hi,rfl⟩:=List.getElem_of_mem hx
 obtain⟨j,hj,rfl⟩:=List.getElem_of_mem hy
 rcases Nat.lt_trichotomy i j with h1 | h1 | h1
 ·have:=h.rise (j-i-1) i (by omega)
  have e:i+(j-i-1)+1=j:=by omega
  simp only[e] at this
  omega
 ·subst h1;rfl
 ·have:=h.rise (i-j-1) j (by omega)
  have e:j+(i-j-1)+1=i:=by omega
  simp only[e] at this
  omega
theorem itEq_self (x:It):itEq x x=true:=by simp[itEq]
theorem Row.same {room:Nat} {l:List It} (h:Row room l) {x:It} (hx:x∈l):sameIn l x=true:=by
 unfold sameIn
 cases hf:l.find? fun a=>decide (a.lg=x.lg) with
 | none=>have:=List.find?_eq_none.1 hf x hx;simp at this
 | some a=>
  have h1:=List.mem_of_find?_eq_some hf
  have h2:=List.find?_some hf
  have:a=x:=h.one h1 hx (by simpa using h2)
  rw[this]
  exact itEq_self x
theorem sameIn_is {l:List It} {x:It} (h:sameIn l x=true):∃a∈l,a.lg=x.lg∧a.own.i=x.own.i∧a.tx=x.tx:=by
 unfold sameIn at h
 split at h
 ·rename_i a hf
  simp only[itEq,Bool.and_eq_true,beq_iff_eq] at h
  exact⟨a,List.mem_of_find?_eq_some hf,h.1,h.2.1,ba_eq.1 h.2.2⟩
 ·cases h
section
variable {room:Nat} (hr:8≤room) {s t:St} (hs:StOk s) {i:Nat} (hi:i<s.files.length) {f':Fl} (ht:t.files=s.files.set i f') (hid:f'.id=s.files[i].id) (hda:s.files[i].data.size<f'.data.size)
 {hd hd' lg lg':ByteArray} (hh:hd.size≤hd'.size) (hg:lg.size≤lg'.size)
include hr hi ht hid hda hh hg
theorem app_drops:drops (itemsT room s hd lg) (itemsT room t hd' lg')=[]:=by
 unfold drops
 rw[List.filter_eq_nil_iff]
 intro x hx
 have key:∃y∈itemsT room t hd' lg',y.lg=x.lg:=by
  rcases items_mem.1 hx with h | h | ⟨g,hgm,h⟩
  ·obtain⟨j,h1,h2,_⟩:=ch_mem hr h
   obtain⟨y,y1,y2,_⟩:=ch_at hr (di 0) 0 (s:=hd') (j:=j) (by omega)
   exact⟨y,items_mem.2 (.inl y1),by omega⟩
  ·obtain⟨j,h1,h2,_⟩:=ch_mem hr h
   obtain⟨y,y1,y2,_⟩:=ch_at hr (di 0) 1000 (s:=lg') (j:=j) (by omega)
   exact⟨y,items_mem.2 (.inr (.inl y1)),by omega⟩
  ·obtain⟨m,hm,rfl⟩:=List.getElem_of_mem hgm
   by_cases hmi:m=i
   ·subst hmi
    obtain⟨j,h1,h2,_⟩:=ch_mem hr h
    obtain⟨y,y1,y2,_⟩:=ch_at hr (di f'.id) (4096*f'.id) (s:=f'.data) (j:=j) (by omega)
    refine⟨y,items_mem.2 (.inr (.inr ⟨f',?_,y1⟩)),by rw[y2,h2,hid]⟩
    rw[ht]
    exact List.mem_iff_getElem.2 ⟨m,by simpa using hm,by simp⟩
   ·refine⟨x,items_mem.2 (.inr (.inr ⟨s.files[m],?_,h⟩)),rfl⟩
    rw[ht]
    exact List.mem_iff_getElem.2 ⟨m,by simpa using hm,by rw[List.getElem_set_ne (fun e=>hmi e.symm)]⟩
 obtain⟨y,y1,y2⟩:=key
 simp only[Bool.not_eq_true',Bool.not_eq_false]
 simpa[hasL] using ⟨y,y1,y2⟩
omit hid hda hh hg in
theorem app_puts (hl:(itemsT room s hd lg).length≤400) (hs:StOk s) (hid:f'.id=s.files[i].id):∀x∈puts (itemsT room s hd lg) (itemsT room t hd' lg'),x.own.i=0∨x.own.i=s.files[i].id:=by
 intro x hx
 obtain⟨h1,h2⟩:=List.mem_filter.1 hx
 have h2:sameIn (itemsT room s hd lg) x=false:=by simpa using h2
 rcases items_mem.1 h1 with h | h | ⟨g,hgm,h⟩
 ·left;rw[(ch_range hr _ _ _ x h).2.2];rfl
 ·left;rw[(ch_range hr _ _ _ x h).2.2];rfl
 ·rw[ht] at hgm
  obtain⟨m,hm,rfl⟩:=List.getElem_of_mem hgm
  by_cases hmi:m=i
  ·subst hmi
   right
   rw[(ch_range hr _ _ _ x h).2.2,List.getElem_set_self]
   exact hid
  ·exfalso
   have e:(s.files.set i f')[m]=s.files[m]'(by simpa using hm):=List.getElem_set_ne (fun e=>hmi e.symm) _
   rw[e] at h
   have:=(items_row hr hs hl).same (items_mem.2 (.inr (.inr ⟨_,List.getElem_mem _,h⟩)))
   rw[this] at h2
   cases h2
theorem app_some (hs:StOk s):puts (itemsT room s hd lg) (itemsT room t hd' lg')≠[]:=by
 intro hnil
 have hf:=hs.files _ (List.getElem_mem hi)
 obtain⟨j,hj1,hj2⟩:∃j,j*room<f'.data.size∧f'.data.size≤(j+1)*room:=by
  refine⟨(f'.data.size-1) / room,?_,?_⟩
  ·have:=Nat.div_mul_le_self (f'.data.size-1) room;omega
  ·have:=Nat.lt_div_mul_add (a:=f'.data.size-1) (b:=room) (by omega)
   rw[Nat.add_mul];omega
 obtain⟨y,y1,y2,y3,y4⟩:=ch_at hr (di f'.id) (4096*f'.id) (s:=f'.data) (j:=j) hj1
 have hy:y∈itemsT room t hd' lg':=items_mem.2 (.inr (.inr ⟨f',by rw[ht];exact List.mem_iff_getElem.2 ⟨i,by simpa using hi,by simp⟩,y1⟩))
 have hsame:sameIn (itemsT room s hd lg) y=true:=by
  cases hq:sameIn (itemsT room s hd lg) y with
  | true=>rfl
  | false=>
   have:y∈puts (itemsT room s hd lg) (itemsT room t hd' lg'):=List.mem_filter.2 ⟨hy,by rw[hq];rfl⟩
   rw[hnil] at this
   cases this
 obtain⟨a,a1,a2,a3,a4⟩:=sameIn_is hsame
 have hown:a.own.i=s.files[i].id:=by rw[a3,y3,←hid];rfl
 have hi0:=hf.id0
 rcases items_mem.1 a1 with h | h | ⟨g,hgm,h⟩
 ·have:=(ch_range hr _ _ _ a h).2.2
  rw[this] at hown
  simp at hown;omega
 ·have:=(ch_range hr _ _ _ a h).2.2
  rw[this] at hown
  simp at hown;omega
 ·obtain⟨m,hm,rfl⟩:=List.getElem_of_mem hgm
  have hgo:=(ch_range hr _ _ _ a h).2.2
  rw[hgo] at hown
  have hmi:m=i:=by
   rcases Nat.lt_trichotomy m i with c | c | c
   ·have:=List.pairwise_iff_getElem.1 hs.rise m i hm hi c
    simp at hown;omega
   ·exact c
   ·have:=List.pairwise_iff_getElem.1 hs.rise i m hi hm c
    simp at hown;omega
  subst hmi
  obtain⟨k,k1,k2,_,k4⟩:=ch_mem hr h
  have hkj:k=j:=by rw[a2,y2,hid] at k2;omega
  subst hkj
  rw[a4,y4] at k4
  rw[Nat.add_mul] at hj2
  omega
end
end Go.AM.SY
namespace Go.AM.SY
open Go Go.AM
theorem works_ok:F15.s FUEL=some (.bool true):=by kernel_rfl
end Go.AM.SY
namespace Go.AM.SY
open Go Go.AM
theorem few_specM (nn:Bool) (l:List Mo):F25.s FUEL (dl nn (l.map Mo.enc))=some (db (fewM l)):=by
 unfold F25.s
 refine goS_rule (fun t:F25.S2=>∃k:Nat,t=⟨dl nn (l.map Mo.enc),(k:Int)⟩∧k≤31∧∀i (h:i<l.length),i<k→oneM l[i]=true) (fun t=>31-t.i2.toNat) (fun o=>o=some (db (fewM l))) ?_ _ _ ⟨0,rfl,by omega,by omega⟩ (by simp[FUEL])
 rintro _ rec ⟨k,rfl,hk,hs⟩ hrec
 have hall:(∀i (h:i<l.length),i≤30→oneM l[i]=true)→(l.take 31).all oneM=true:=by
  intro h
  simp only[List.all_eq_true]
  intro e he
  obtain⟨i,hi,rfl⟩:=List.getElem_of_mem he
  simp at hi ⊢
  exact h i (by omega) (by omega)
 have hno:∀(h1:k<l.length),k≤30→oneM l[k]=false→fewM l=false:=by
  intro h1 h2 h3
  have:(l.take 31).all oneM=false:=by
   rw[List.all_eq_false]
   refine⟨l[k],?_,by simp[h3]⟩
   rw[List.mem_take_iff_getElem]
   exact⟨k,by omega,rfl⟩
  simp[fewM,this]
 simp only[F25.st2]
 by_cases h1:k<l.length
 ·refine ct (by simp;omega) ?_
  by_cases h2:k≤30
  ·refine ct (by simp;omega) (ct (by simp;omega) ?_)
   simp only[elems_slice,Int.toNat_natCast,ix_map h1]
   have ht:((l[k].enc.at 2).s)=l[k].text:=rfl
   have hn:((l[k].enc.at 1).s)=l[k].name:=rfl
   rw[ht,hn]
   by_cases h3:l[k].text.size≤700
   ·refine cf (by simp;omega) (ct (by simp;omega) ?_)
    by_cases h4:l[k].name.size≤200
    ·refine cf (by simp;omega) ?_
     have hadd:ad .i64 (k:Int) 1=((k+1:Nat):Int):=by rw[ad64 (by omega) (by omega)];rfl
     rw[hadd]
     refine hrec _ ⟨k+1,rfl,by omega,?_⟩ (by simp;omega)
     intro i hi hik
     by_cases hik':i=k
     ·subst hik';simp[oneM,h3,h4]
     ·exact hs i hi (by omega)
    ·refine ct (by simp;omega) ?_
     rw[hno h1 h2 (by simp[oneM,h4])]
   ·refine ct (by simp;omega) ?_
    rw[hno h1 h2 (by simp[oneM,h3])]
  ·refine cf (by simp;omega) ?_
   have:¬l.length≤30:=by omega
   simp[fewM,this,leI]
   try omega
 ·refine cf (by simp;omega) ?_
  have:=hall (fun i hi hi2=>hs i hi (by omega))
  simp[fewM,this,leI]
  omega
end Go.AM.SY
namespace Go.AM.SY
open Go Go.AM
def appO (n t:ByteArray):Mo:=⟨1,n,t,0,0,0⟩
theorem app_do {s:St} {n t:ByteArray} (h:(doM shaL s (appO n t)).an.err=0):∃(i:Nat) (hi:i<s.files.length),findM s n=some i∧0<t.size∧(doM shaL s (appO n t)).st = { s with files:=s.files.set i { s.files[i] with data:=s.files[i].data++t } }:=by
 have e:doM shaL s (appO n t)=changeM shaL s (appO n t):=rfl
 rw[e] at h ⊢
 unfold changeM at h ⊢
 have en:(appO n t).name=n:=rfl
 rw[en] at h ⊢
 split at h
 ·simp[stay,wrongA] at h
 rename_i i hi
 rw[hi]
 obtain⟨hl,_⟩:=findM_is hi
 have ef:s.files[i]? = some s.files[i]:=List.getElem?_eq_getElem hl
 simp only[ef] at h ⊢
 have k6:¬(appO n t).kind=6:=by simp[appO]
 have hd:(fileDo shaL s.files[i] (appO n t) s.floor).2.2=0:=by
  by_cases h0:(fileDo shaL s.files[i] (appO n t) s.floor).2.2=0
  ·exact h0
  ·rw[if_neg h0] at h;exact absurd h h0
 have ed:deedF s.files[i] (appO n t) s.floor=appendF s.files[i] t:=rfl
 have hd2:(appendF s.files[i] t).2=0:=by
  unfold fileDo at hd
  rw[ed] at hd
  split at hd
  ·assumption
  ·exact hd
 have e1:(fileDo shaL s.files[i] (appO n t) s.floor).1 = { s.files[i] with data:=s.files[i].data++t }∧0<t.size:=by
  unfold fileDo
  rw[ed,if_pos hd2]
  unfold appendF at hd2 ⊢
  split at hd2
  ·simp at hd2
  split at hd2
  ·simp at hd2
  split at hd2
  ·simp at hd2
  rename_i h1 h2 h3
  rw[if_neg h1,if_neg h2,if_neg h3]
  refine⟨rfl,?_⟩
  have:=bs_ne h2
  omega
 rw[if_pos hd,if_neg k6,e1.1]
 exact⟨i,hl,rfl,e1.2,rfl⟩
theorem fsum_set:∀(l:List Fl) (i:Nat) (h:i<l.length) (x:Fl),flen l[i]≤flen x→fsum l≤fsum (l.set i x)
 | f::l,0,_,x,hx=>by simpa[fsum] using hx
 | f::l,i+1,h,x,hx=>by
  have:=fsum_set l i (by simpa using h) x (by simpa using hx)
  simp only[fsum,List.map_cons,List.sum_cons,List.set_cons_succ] at this ⊢
  omega
theorem appends_law (nn:Bool) (l:List Mo) (hl:∀o∈l,o.ok) (p1 p2:ByteArray) (room:Int):F7.s FUEL (dl nn (l.map Mo.enc)) p1 p2 room=some (db true):=by
 unfold F7.s
 refine bdS works_ok (cf rfl (bdS (few_specM nn l) ?_))
 cases hf:fewM l with
 | false=>exact ct rfl rfl
 | true=>
 refine cf rfl ?_
 by_cases c1:600<p2.size
 ·exact ct (by simp;omega) rfl
 refine cf (by simp;omega) ?_
 by_cases c2:200<p1.size
 ·exact ct (by simp;omega) rfl
 refine cf (by simp;omega) ?_
 by_cases c3:room<8
 ·exact ct (by simpa using c3) rfl
 refine cf (by simp;omega) ?_
 by_cases c4:224<room
 ·exact ct (by simpa using c4) rfl
 refine cf (by simp;omega) ?_
 obtain⟨hlen,hmo⟩:=few_okM hf hl
 obtain⟨hst,hev,hel⟩:=run_facts l (run0 emptyS) emptyS_ok hmo (by simp[run0])
 refine bdS (run_spec emptyS nn l emptyS_ok hmo (by omega)) ?_
 obtain⟨R,hR⟩:∃R,R=runM shaL emptyS l:=⟨_,rfl⟩
 rw[←hR]
 have hst':StOk R.st:=by rw[hR];exact hst
 have hev':∀e∈R.evs,EvSm e:=by rw[hR];exact fun e he=>(hev e he).2
 have hel':R.evs.length≤1000:=by rw[hR];have e:(run0 emptyS).evs.length=0:=rfl;show (runFrom shaL l (run0 emptyS)).evs.length≤_;omega
 have e0:R.enc.at 0=R.st.enc:=rfl
 have e2:R.enc.at 2=dl R.nnE (R.evs.map Ev.enc):=rfl
 rw[e0,e2]
 generalize R.st=s at *
 generalize R.evs=v at *
 generalize R.nnE=nv at *
 have ho:MoOk (appO p1 p2):=⟨by simp[appO,i64ok],by simp[appO,i64ok],by simp[appO,i64ok],by simp[appO,i64ok],by show p1.size≤_;omega,by show p2.size≤_;omega⟩
 have eo:(da [(di 1),(dS p1),(dS p2),(di 0),(di 0),(di 0)])=(appO p1 p2).enc:=rfl
 rw[eo]
 refine bdS (do_specM s (appO p1 p2) hst' ho) ?_
 obtain⟨T,hT⟩:∃T,T=doM shaL s (appO p1 p2):=⟨_,rfl⟩
 rw[←hT]
 have g0:T.enc.at 0=T.st.enc:=rfl
 have g1:((T.enc.at 1).at 0).i=T.an.err:=rfl
 have g2:T.enc.at 2=dl T.nn (T.evs.map Ev.enc):=rfl
 rw[g0,g1,g2]
 by_cases c5:¬T.an.err=0
 ·exact ct (by simpa using c5) rfl
 have c5:T.an.err=0:=by omega
 refine cf (by simpa using c5) ?_
 have hw:=do_events shaL_len hst' ho
 have hwl:=do_evs_len (sum:=shaL) (o:=appO p1 p2) hst'
 have htok:=do_ok (sum:=shaL) hst' ho
 rw[hT] at c5
 obtain⟨i,hi,hfi,hpos,hset⟩:=app_do c5
 rw[←hT] at hw hwl htok hset
 refine bdS (find_specM s p1 (by have:=hst'.len;omega)) ?_
 have efind:findI (fun f:Fl=>decide (f.name=p1)) s.files=(i:Int):=by
  unfold findI
  unfold findM at hfi
  rw[hfi]
 rw[efind]
 have hev2:∀e∈v++T.evs,EvSm e:=by
  intro e he
  rcases List.mem_append.1 he with he | he
  ·exact hev' e he
  ·exact⟨(hw e he).2.1,(hw e he).2.2⟩
 simp only[elems_slice,List.length_map]
 refine ct (by simp;omega) (ct (by simp;omega) ?_)
 have erow:((ap ((((v.map Ev.enc).drop 0).take v.length)) (T.evs.map Ev.enc)).drop 0).take (v.length+T.evs.length)=(v++T.evs).map Ev.enc:=by
  have x1:(v.map Ev.enc).take v.length=v.map Ev.enc:=List.take_of_length_le (by rw[List.length_map];exact Nat.le_refl _)
  rw[List.drop_zero,List.drop_zero,x1,ap,←List.map_append,List.take_of_length_le (by simp)]
 rw[erow]
 obtain⟨n2,hn2⟩:∃b:Bool,b=(!(v.map Ev.enc).isEmpty||!(T.evs.map Ev.enc).isEmpty):=⟨_,rfl⟩
 rw[←hn2]
 refine put_items hst' nv v hev' room (Post:=fun o=>bd o _=some (db true)) ?_ ?_
 ·refine bdS rfl ?_
  refine put_items htok n2 (v++T.evs) hev2 room (Post:=fun o=>bd o _=some (db true)) (bdS rfl (ct rfl rfl)) ?_
  intro r _ _ _ _ b hd lg _ _ _
  exact bdS rfl (ct rfl rfl)
 intro r hr hr8 _ _ b hd lg hhd hlg h4
 refine bdS rfl ?_
 refine put_items htok n2 (v++T.evs) hev2 room (Post:=fun o=>bd o _=some (db true)) (bdS rfl (cf rfl (ct rfl rfl))) ?_
 intro r' hr' _ _ _ b' hd' lg' hhd' hlg' h4'
 have:r'=r:=by omega
 subst this
 rw[itemsOf_eq] at h4 h4' ⊢
 rw[itemsOf_eq]
 rw[List.length_map] at h4 h4'
 refine bdS rfl (cf rfl (cf rfl ?_))
 have u1:∀(b:Bool) (L:List It),(D.tup [dl b (L.map It.enc),db true]).at 0=dl b (L.map It.enc):=fun _ _=>rfl
 rw[u1,u1]
 obtain⟨b3,hdiff⟩:=diff_spec b b' (itemsT r' s hd lg) (itemsT r' T.st hd' lg') h4 h4' (items_own hr8) (items_own hr8)
 have hfile:T.st.files=s.files.set i { s.files[i] with data:=s.files[i].data++p2 }:=by rw[hset]
 have hda:s.files[i].data.size<({ s.files[i] with data:=s.files[i].data++p2 }:Fl).data.size:=by simp;omega
 have hfl:flen s.files[i]≤flen { s.files[i] with data:=s.files[i].data++p2 }:=by
  have:=nlen_mono (m:=(s.files[i].data.size:Int)) (n:=((s.files[i].data++p2).size:Int)) (by rw[ByteArray.size_append];omega)
  simp only[flen]
  omega
 have hhh:hd.size≤hd'.size:=by
  rw[hhd,hhd']
  have q1:T.st.last=s.last:=by rw[hset]
  have q2:T.st.floor=s.floor:=by rw[hset]
  have q3:=nlen_mono (m:=nI v.length) (n:=nI (v++T.evs).length) (by simp;omega)
  have q4:=fsum_set s.files i hi _ hfl
  unfold Go.AM.SY.hlen
  rw[q1,q2,hfile,List.length_set]
  omega
 have hgg:lg.size≤lg'.size:=by rw[hlg,hlg',lsz_append];omega
 have hd0:=app_drops hr8 hi hfile rfl hda hhh hgg
 have hp0:=app_puts hr8 hi hfile (hd:=hd) (lg:=lg) (hd':=hd') (lg':=lg') h4 hst' rfl
 have hs0:=app_some hr8 hi hfile rfl hda hhh hgg hst'
 refine bdS hdiff ?_
 rw[hd0]
 have hpl:(puts (itemsT r' s hd lg) (itemsT r' T.st hd' lg')).length≤400:=Nat.le_trans (List.length_filter_le _ _) h4'
 generalize puts (itemsT r' s hd lg) (itemsT r' T.st hd' lg')=P at hp0 hs0 hpl ⊢
 simp only[List.map_nil,List.nil_append,elems_slice,List.length_map]
 have hget:∀(k:Nat) (h:k<P.length),ix (P.map putE) k=putE P[k]:=fun k h=>ix_map h
 have hP0:0<P.length:=List.length_pos_iff.2 hs0
 generalize ap (List.take v.length (List.drop 0 (List.map Ev.enc v))) (List.map Ev.enc T.evs)=Q
 refine goS_rule (fun t:F7.S20=>∃k:Nat,t=⟨db true,di i,0,P.length,(k:Int),s.enc,T.st.enc,T.enc.at 1,n2,Q,D.nn (.slice b3 (P.map putE)),P.map putE⟩∧k≤P.length) (fun t=>P.length-t.i13.toNat) (fun o=>o=some (db true)) ?_ _ _ ⟨0,?_,by omega⟩ (by simp[FUEL];omega)
 ·rintro _ rec ⟨k,rfl,hk⟩ hrec
  simp only[F7.st20]
  by_cases h5:k<P.length
  ·have hadd:ad .i64 (k:Int) 1=((k+1:Nat):Int):=by rw[ad64 (by omega) (by omega)];rfl
   have hnext:rec ⟨db true,di i,0,P.length,(ad .i64 (k:Int) 1),s.enc,T.st.enc,T.enc.at 1,n2,Q,D.nn (.slice b3 (P.map putE)),P.map putE⟩=some (db true):=by
    refine hrec _ ⟨k+1,by rw[hadd],by omega⟩ (by rw[hadd];simp;omega)
   simp only[Nat.zero_add,Int.toNat_natCast,hget k h5]
   have ho1:(putE P[k]).at 1=db false:=rfl
   have ho2:(((putE P[k]).at 0).at 1).i=P[k].own.i:=rfl
   rw[ho1,ho2]
   refine ct (by simp;omega) (ct (by simp;omega) ?_)
   have hb:∀f:Bool→Option D,bdB (db false) f=f false:=fun _=>rfl
   rw[hb]
   refine cf rfl (ct (by simp;omega) ?_)
   by_cases h6:P[k].own.i=0
   ·exact cf (by simpa using h6) hnext
   ·have h7:=hp0 _ (List.getElem_mem h5)
    refine ct (by simpa using h6) (ct (by simp;omega) ?_)
    have hsl:(s.enc.at 0).elems=s.files.map Fl.enc:=rfl
    rw[hsl]
    refine ct (by simp;omega) (cf ?_ hnext)
    simp only[i_int,Int.toNat_natCast,ix_map hi]
    have:((s.files[i].enc).at 0).i=s.files[i].id:=rfl
    rw[this]
    simp
    rcases h7 with h7 | h7
    ·exact absurd h7 h6
    ·exact h7
  ·refine cf (by simp;omega) ?_
   exact ct rfl (by simp;omega)
 ·rfl
theorem pure7:∀ds,D.hass ty ds [(.slice 74),.str,.str,(.int .i64)]→D.wfs ds→F7.c.run ds=some (.bool true):=by
 intro ds h hw
 obtain⟨d0,_,rfl,h0,h⟩:=hassC h
 obtain⟨d1,_,rfl,h1,h⟩:=hassC h
 obtain⟨d2,_,rfl,h2,h⟩:=hassC h
 obtain⟨d3,_,rfl,h3,h⟩:=hassC h
 obtain rfl:=hass0 h
 simp only[D.wfs] at hw
 obtain⟨nn,l,rfl,hl⟩:=mos_of h0 hw.1
 obtain⟨a,rfl⟩:=has_str h1
 obtain⟨b,rfl⟩:=has_str h2
 obtain⟨n,rfl⟩:=has_int h3
 exact appends_law nn l hl a b n
end Go.AM.SY
