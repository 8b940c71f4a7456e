/- Part 13 of the proof: the abstract machine, what the functions compute, and plain laws over that. -/
import Derived.Test.YtmbnifmpbafcjaaGreatDoorIt12
import Derived.KernelRfl
set_option linter.all false
set_option linter.unusedSimpArgs false
set_option linter.unusedVariables false
set_option linter.unusedSectionVars false
namespace Go.AM.SY
open Go Go.AM
def tsum (l:List ByteArray):Nat:=(l.map fun s=>tlen s.size).sum
def flen (f:Fl):Nat:=nlen f.id+tlen f.name.size+nlen (if f.sealed=true then 1 else 0)+nlen f.until_+nlen (f.data.size:Int)+nlen (f.holds.length:Int)+tsum f.holds
def fsum (l:List Fl):Nat:=(l.map flen).sum
def hlen (s:St) (n:Int):Nat:=nlen s.last+nlen s.floor+nlen (s.files.length:Int)+nlen n+fsum s.files
theorem tlen_le (k:Nat):1≤tlen k∧tlen k≤k+9:=by
 have:=nlen_le (k:Int)
 unfold tlen;omega
theorem tsum_le:∀(l:List ByteArray) (n:Nat),(∀s∈l,s.size≤n)→tsum l≤l.length*(n+9)
 | [],n,_=>by simp[tsum]
 | s::l,n,h=>by
  have h1:=tsum_le l n fun x hx=>h x (by simp[hx])
  have h2:=tlen_le s.size
  have h3:=h s (by simp)
  simp only[tsum,List.map_cons,List.sum_cons,List.length_cons,Nat.add_mul] at h1 ⊢
  omega
theorem tsum_take_le (l:List ByteArray) (k:Nat):tsum (l.take k)≤tsum l:=by
 have:tsum l=tsum (l.take k)+tsum (l.drop k):=by
  unfold tsum
  rw[←List.sum_append,←List.map_append,List.take_append_drop]
 omega
theorem tsum_succ {l:List ByteArray} {k:Nat} (h:k<l.length):tsum (l.take (k+1))=tsum (l.take k)+tlen l[k].size:=by
 unfold tsum
 rw[List.take_succ_eq_append_getElem h]
 simp only[List.map_append,List.sum_append,List.map_cons,List.map_nil,List.sum_cons,List.sum_nil,Nat.add_zero]
theorem fsum_succ {l:List Fl} {k:Nat} (h:k<l.length):fsum (l.take (k+1))=fsum (l.take k)+flen l[k]:=by
 unfold fsum
 rw[List.take_succ_eq_append_getElem h]
 simp only[List.map_append,List.sum_append,List.map_cons,List.map_nil,List.sum_cons,List.sum_nil,Nat.add_zero]
theorem flen_le {f:Fl} {last:Int} (h:FlOk f last):flen f≤6000:=by
 have h1:=nlen_le f.id
 have h2:=tlen_le f.name.size
 have h3:=nlen_le (if f.sealed=true then 1 else 0)
 have h4:=nlen_le f.until_
 have h5:=nlen_le (f.data.size:Int)
 have h6:=nlen_le (f.holds.length:Int)
 have h7:=tsum_le f.holds 1000 h.hsz
 have h8:=h.hold
 have h9:=h.nsz
 have:f.holds.length*(1000+9)≤4*1009:=Nat.mul_le_mul_right _ h8
 unfold flen
 omega
theorem fsum_le:∀{l:List Fl} {last:Int},(∀f∈l,FlOk f last)→fsum l≤l.length*6000
 | [],_,_=>by simp[fsum]
 | f::l,last,h=>by
  have h1:=fsum_le (l:=l) fun x hx=>h x (by simp[hx])
  have h2:=flen_le (h f (by simp))
  simp only[fsum,List.map_cons,List.sum_cons,List.length_cons,Nat.add_mul] at h1 ⊢
  omega
theorem holds_loop {Post:Option D→Prop} (K:F60.X14→Option D) (f:Fl) (hh:f.holds.length≤4) (hz:∀s∈f.holds,s.size≤1000) (d19:D) (i20 i21:Int) (d25 d28:D) (a c:Nat) (b:Bool) (l:List D) (hc:c≤1000000) (hf:Full l a c)
  (hK:∀(a':Nat) (b':Bool) (l':List D),Full l' a' (c+tsum f.holds)→Post (K (.e0 d19 i20 i21 d25 a' (c+tsum f.holds) d28 b' l'))) :
  Post (goS (F60.st14 FUEL) FUEL ⟨d19,i20,i21,dl f.nn (f.holds.map dS),nI (f.holds.map dS).length,0,d25,a,c,d28,b,l⟩ K):=by
 have hall:=tsum_le f.holds 1000 hz
 have hmul:f.holds.length*(1000+9)≤4*1009:=Nat.mul_le_mul_right _ hh
 refine goS_rule (fun t:F60.S14=>∃(k a':Nat) (b':Bool) (l':List D),t=⟨d19,i20,i21,dl f.nn (f.holds.map dS),nI (f.holds.map dS).length,(k:Int),d25,a',c+tsum (f.holds.take k),d28,b',l'⟩∧k≤f.holds.length∧Full l' a' (c+tsum (f.holds.take k))) (fun t=>f.holds.length-t.i24.toNat) Post ?_ _ _ ⟨0,a,b,l,by simp[tsum],by omega,by simpa[tsum] using hf⟩ (by simp[FUEL];omega)
 rintro _ rec ⟨k,a',b',l',rfl,hk,hf'⟩ hrec
 simp only[F60.st14]
 have htk:=tsum_take_le f.holds k
 by_cases h1:k<f.holds.length
 ·have hadd:ad .i64 (k:Int) 1=((k+1:Nat):Int):=by rw[ad64 (by omega) (by omega)];rfl
  have hsz:=hz _ (List.getElem_mem h1)
  obtain⟨t,t1,t2⟩:=text_spec f.holds[k] (by omega)
  have t3:=tlen_le f.holds[k].size
  refine pct (by simp;omega) (pct (by simp;omega) ?_)
  simp only[elems_slice,Int.toNat_natCast,ix_map h1]
  refine pbd (x:=dS t) t1 (pct (by simp[byte_len];omega) ?_)
  simp only[s_str,byte_len,t2]
  refine hrec _ ⟨k+1,0,b'||!(bytesOf t).isEmpty,ap ((l'.drop a').take (c+tsum (f.holds.take k))) (bytesOf t),?_,by omega,?_⟩ ?_
  ·rw[F60.S14.mk.injEq]
   exact⟨rfl,rfl,rfl,rfl,rfl,hadd,rfl,rfl,by rw[tsum_succ h1];omega,rfl,rfl,rfl⟩
  ·have:=full_ap hf' (bytesOf t)
   rw[byte_len,t2] at this
   rw[tsum_succ h1]
   unfold Full at this ⊢
   omega
  ·rw[hadd];simp;omega
 ·refine pcf (by simp;omega) ?_
  have hke:k=f.holds.length:=by omega
  subst hke
  rw[List.take_length] at hf' ⊢
  exact hK a' b' l' hf'
theorem head_spec (s:St) (hs:StOk s) (n:Int):∃b:ByteArray,F60.s FUEL s.enc n=some (dS b)∧b.size=hlen s n:=by
 suffices h:∀Post:Option D→Prop,(∀b:ByteArray,b.size=hlen s n→Post (some (dS b)))→Post (F60.s FUEL s.enc n) from h (fun o=>∃b:ByteArray,o=some (dS b)∧b.size=hlen s n) fun b hb=>⟨b,rfl,hb⟩
 intro Post hPost
 have hfl:=hs.len
 have hall:=fsum_le hs.files
 unfold F60.s
 obtain⟨b1,x1,y1⟩:=num_spec s.last
 obtain⟨b2,x2,y2⟩:=num_spec s.floor
 obtain⟨b3,x3,y3⟩:=num_spec (nI s.files.length)
 obtain⟨b4,x4,y4⟩:=num_spec n
 have z1:=nlen_le s.last
 have z2:=nlen_le s.floor
 have z3:=nlen_le (nI s.files.length)
 have z4:=nlen_le n
 have e0:s.enc.at 0=dl s.nn (s.files.map Fl.enc):=rfl
 rw[e0]
 simp only[elems_slice,List.length_map]
 refine pbd (x:=dS b1) x1 (pct (by simp[byte_len];omega) (pbd (x:=dS b2) x2 (pct (by simp[byte_len];omega) (pbd (x:=dS b3) x3 (pct (by simp[byte_len];omega) (pbd (x:=dS b4) x4 (pct (by simp[byte_len];omega) ?_)))))))
 have hF0:Full (bytesOf b1) 0 b1.size:=by unfold Full;rw[byte_len];omega
 have hF1:=full_ap hF0 (bytesOf b2)
 have hF2:=full_ap hF1 (bytesOf b3)
 have hF3:=full_ap hF2 (bytesOf b4)
 simp only[s_str,byte_len] at hF1 hF2 hF3 ⊢
 obtain⟨c0,hc0⟩:∃c0,c0=b1.size+b2.size+b3.size+b4.size:=⟨_,rfl⟩
 rw[←hc0] at hF3 ⊢
 have hc:c0=nlen s.last+nlen s.floor+nlen (s.files.length:Int)+nlen n:=by rw[hc0,y1,y2,y3,y4];rfl
 refine(fun (h:∀(bb:Bool) (LL:List D),Full LL 0 c0→Post (goS (F60.st5 FUEL) FUEL ⟨dl s.nn (s.files.map Fl.enc),nI s.files.length,0,s.enc,0,c0,bb,LL⟩ _))=>h _ _ hF3) ?_
 intro bb LL hFL
 refine goS_rule (fun t:F60.S5=>∃(k a:Nat) (b:Bool) (l:List D),t=⟨dl s.nn (s.files.map Fl.enc),nI s.files.length,(k:Int),s.enc,a,c0+fsum (s.files.take k),b,l⟩∧k≤s.files.length∧Full l a (c0+fsum (s.files.take k))) (fun t=>s.files.length-t.i7.toNat) Post ?_ _ _ ⟨0,0,bb,LL,by simp[fsum],by omega,by simpa[fsum] using hFL⟩ (by simp[FUEL];omega)
 rintro _ rec ⟨k,a,b,l,rfl,hk,hf⟩ hrec
 simp only[F60.st5]
 have hft:fsum (s.files.take k)≤fsum s.files:=by
  have:fsum s.files=fsum (s.files.take k)+fsum (s.files.drop k):=by
   unfold fsum
   rw[←List.sum_append,←List.map_append,List.take_append_drop]
  omega
 by_cases h1:k<s.files.length
 ·have hadd:ad .i64 (k:Int) 1=((k+1:Nat):Int):=by rw[ad64 (by omega) (by omega)];rfl
  have hfk:=hs.files _ (List.getElem_mem h1)
  have hfle:=flen_le hfk
  obtain⟨f,hfe⟩:∃f,f=s.files[k]:=⟨_,rfl⟩
  rw[←hfe] at hfk hfle
  obtain⟨r1,u1,v1⟩:=num_spec f.id
  obtain⟨r2,u2,v2⟩:=text_spec f.name (by have:=hfk.nsz;omega)
  obtain⟨r4,u4,v4⟩:=num_spec f.until_
  obtain⟨r5,u5,v5⟩:=num_spec (nI f.data.size)
  obtain⟨r6,u6,v6⟩:=num_spec (nI (f.holds.map dS).length)
  have w1:=nlen_le f.id
  have w2:=tlen_le f.name.size
  have w4:=nlen_le f.until_
  have w5:=nlen_le (nI f.data.size)
  have w6:=nlen_le (nI (f.holds.map dS).length)
  have w9:=hfk.nsz
  refine pct (by simp;omega) (pct (by simp;omega) ?_)
  simp only[elems_slice,Int.toNat_natCast,ix_map h1]
  rw[←hfe]
  have q0:(f.enc.at 0).i=f.id:=rfl
  have q1:(f.enc.at 1).s=f.name:=rfl
  have q2:(f.enc.at 2).s=f.data:=rfl
  have q3:(f.enc.at 3).b=f.sealed:=rfl
  have q4:(f.enc.at 4).i=f.until_:=rfl
  have q5:f.enc.at 5=dl f.nn (f.holds.map dS):=rfl
  rw[q0,q1,q2,q3,q4,q5]
  refine pbd (x:=dS r1) u1 (pct (by simp[byte_len];omega) (pbd (x:=dS r2) u2 (pct (by simp[byte_len];omega) ?_)))
  have hG1:=full_ap hf (bytesOf r1)
  have hG2:=full_ap hG1 (bytesOf r2)
  have tail:∀(b7:Int) (r3:ByteArray),F90.s FUEL b7=some (dS r3)→r3.size=nlen (if f.sealed=true then 1 else 0)→Post (bd (F90.s FUEL b7) fun r15=>(cond (mx (((c0+fsum (s.files.take k)+(bytesOf (dS r1).s).length)+(bytesOf (dS r2).s).length)+(bytesOf r15.s).length)) (bd (F90.s FUEL f.until_) fun r16=>(cond (mx ((((c0+fsum (s.files.take k)+(bytesOf (dS r1).s).length)+(bytesOf (dS r2).s).length)+(bytesOf r15.s).length)+(bytesOf r16.s).length)) (bd (F90.s FUEL (nI f.data.size)) fun r17=>(cond (mx (((((c0+fsum (s.files.take k)+(bytesOf (dS r1).s).length)+(bytesOf (dS r2).s).length)+(bytesOf r15.s).length)+(bytesOf r16.s).length)+(bytesOf r17.s).length)) (bd (F90.s FUEL (nI (f.holds.map dS).length)) fun r18=>(cond (mx ((((((c0+fsum (s.files.take k)+(bytesOf (dS r1).s).length)+(bytesOf (dS r2).s).length)+(bytesOf r15.s).length)+(bytesOf r16.s).length)+(bytesOf r17.s).length)+(bytesOf r18.s).length)) (goS (F60.st14 FUEL) FUEL ⟨dl s.nn (s.files.map Fl.enc),nI s.files.length,(k:Int),dl f.nn (f.holds.map dS),nI (f.holds.map dS).length,0,s.enc,0,((((((c0+fsum (s.files.take k)+(bytesOf (dS r1).s).length)+(bytesOf (dS r2).s).length)+(bytesOf r15.s).length)+(bytesOf r16.s).length)+(bytesOf r17.s).length)+(bytesOf r18.s).length),f.enc,((((((b||(!(bytesOf (dS r1).s).isEmpty))||(!(bytesOf (dS r2).s).isEmpty))||(!(bytesOf r15.s).isEmpty))||(!(bytesOf r16.s).isEmpty))||(!(bytesOf r17.s).isEmpty))||(!(bytesOf r18.s).isEmpty)),(ap (((ap (((ap (((ap (((ap (((ap ((l.drop a).take (c0+fsum (s.files.take k))) (bytesOf (dS r1).s)).drop 0).take (c0+fsum (s.files.take k)+(bytesOf (dS r1).s).length)) (bytesOf (dS r2).s)).drop 0).take ((c0+fsum (s.files.take k)+(bytesOf (dS r1).s).length)+(bytesOf (dS r2).s).length)) (bytesOf r15.s)).drop 0).take (((c0+fsum (s.files.take k)+(bytesOf (dS r1).s).length)+(bytesOf (dS r2).s).length)+(bytesOf r15.s).length)) (bytesOf r16.s)).drop 0).take ((((c0+fsum (s.files.take k)+(bytesOf (dS r1).s).length)+(bytesOf (dS r2).s).length)+(bytesOf r15.s).length)+(bytesOf r16.s).length)) (bytesOf r17.s)).drop 0).take (((((c0+fsum (s.files.take k)+(bytesOf (dS r1).s).length)+(bytesOf (dS r2).s).length)+(bytesOf r15.s).length)+(bytesOf r16.s).length)+(bytesOf r17.s).length)) (bytesOf r18.s))⟩ fun x=>match x with | .e0 d19 i20 i21 d25 n26 n27 d28 b29 l30=>(rec ⟨d19,i20,(ad .i64 i21 1),d25,n26,n27,b29,l30⟩)) none)) none)) none)) none)):=by
   intro b7 r3 u3 v3
   have w3:=nlen_le (if f.sealed=true then 1 else 0)
   refine pbd (x:=dS r3) u3 (pct (by simp[byte_len];omega) (pbd (x:=dS r4) u4 (pct (by simp[byte_len];omega) (pbd (x:=dS r5) u5 (pct (by simp[byte_len];omega) (pbd (x:=dS r6) u6 (pct (by simp[byte_len];omega) ?_)))))))
   have hG3:=full_ap hG2 (bytesOf r3)
   have hG4:=full_ap hG3 (bytesOf r4)
   have hG5:=full_ap hG4 (bytesOf r5)
   have hG6:=full_ap hG5 (bytesOf r6)
   simp only[s_str]
   refine holds_loop _ f hfk.hold hfk.hsz _ _ _ _ _ _ _ _ _ (by simp only[byte_len];omega) hG6 (fun a' b' l' hf'=>?_)
   refine hrec _ ⟨k+1,a',b',l',?_,by omega,?_⟩ ?_
   ·rw[F60.S5.mk.injEq]
    refine⟨rfl,rfl,hadd,rfl,rfl,?_,rfl,rfl⟩
    rw[fsum_succ h1,←hfe]
    simp only[byte_len,v1,v2,v3,v4,v5,v6,flen,List.length_map,nI_eq]
    omega
   ·rw[fsum_succ h1,←hfe]
    simp only[byte_len,v1,v2,v3,v4,v5,v6,List.length_map,nI_eq] at hf'
    unfold Full at hf' ⊢
    simp only[flen]
    omega
   ·rw[hadd];simp;omega
  by_cases hse:f.sealed=true
  ·obtain⟨r3,u3,v3⟩:=num_spec 1
   exact pct hse (tail 1 r3 u3 (by rw[v3,if_pos hse]))
  ·obtain⟨r3,u3,v3⟩:=num_spec 0
   exact pcf (by simpa using hse) (tail 0 r3 u3 (by rw[v3,if_neg hse]))
 ·refine pcf (by simp;omega) ?_
  have hke:k=s.files.length:=by omega
  subst hke
  rw[List.take_length] at hf ⊢
  refine pct ?_ (hPost _ ?_)
  ·cases b<;>simp<;>omega
  ·rw[byte_size,full_len hf]
   unfold hlen
   omega
end Go.AM.SY
namespace Go.AM.SY
open Go Go.AM
theorem within_specM (n h:Int):F105.s FUEL n h=some (db (decide (0≤n)&&decide (n≤h))):=by
 unfold F105.s
 by_cases h0:0≤n
 ·exact ct (by simpa using h0) (by simp[h0,leI])
 ·exact cf (by simp;omega) (by simp[h0])
theorem valid_file {f:Fl} {last:Int} (hf:FlOk f last) (hl:last≤1099511627776):F106.s FUEL f.enc=some (db true):=by
 have i0:=hf.id0
 have i1:=hf.id1
 have u0:=hf.until0
 have u1:=hf.until1
 have hns:=hf.nsz
 have hda:=hf.data
 have hho:=hf.hold
 unfold F106.s
 refine bdS (numbered_spec f.id) (cf ?_ (bdS (name_spec f.name (by omega)) (cf ?_ (cf ?_ (cf ?_ (cf ?_ (cf ?_ ?_)))))))
 ·show (!(decide (1≤f.id)&&decide (f.id≤1099511627776)))=false
  simp;omega
 ·show (!nameB f.name)=false
  simp[hf.name]
 ·show gtI (nI f.data.size) 600=false
  simp;omega
 ·show ltI f.until_ 0=false
  simp;omega
 ·show gtI f.until_ 1099511627776=false
  simp;omega
 ·show gtI (nI (f.holds.map dS).length) 4=false
  simp;omega
 have h3:(f.enc.at 3).b=f.sealed:=rfl
 have h4:(f.enc.at 4).i=f.until_:=rfl
 have h5:f.enc.at 5=dl f.nn (f.holds.map dS):=rfl
 rw[h3,h4,h5]
 by_cases hse:f.sealed=true
 ·refine cf (by simp[hse]) ?_
  refine goS_rule (fun t:F106.S6=>∃k:Nat,t=⟨dl f.nn (f.holds.map dS),nI (f.holds.map dS).length,(k:Int),f.enc⟩∧k≤f.holds.length) (fun t=>f.holds.length-t.i5.toNat) (fun o=>o=some (db true)) ?_ _ _ ⟨0,rfl,by omega⟩ (by simp[FUEL];omega)
  rintro _ rec ⟨k,rfl,hk⟩ hrec
  simp only[F106.st6]
  by_cases h1:k<f.holds.length
  ·have hadd:ad .i64 (k:Int) 1=((k+1:Nat):Int):=by rw[ad64 (by omega) (by omega)];rfl
   have hkz:=hf.hsz _ (List.getElem_mem h1)
   refine ct (by simp;omega) (ct (by simp;omega) ?_)
   simp only[elems_slice,Int.toNat_natCast,ix_map h1]
   refine bdS (name_spec f.holds[k] (by omega)) (cf (by show (!nameB f.holds[k])=false;simp[hf.hname _ (List.getElem_mem h1)]) ?_)
   have fin:rec ⟨dl f.nn (f.holds.map dS),nI (f.holds.map dS).length,ad .i64 (k:Int) 1,f.enc⟩=some (db true):=by
    rw[hadd]
    exact hrec _ ⟨k+1,rfl,by omega⟩ (by simp;omega)
   by_cases h0:0<k
   ·have hsub:sb .i64 (k:Int) 1=((k-1:Nat):Int):=by rw[sb64 (by omega) (by omega)];omega
    have hk1:k-1<f.holds.length:=by omega
    have hkz1:=hf.hsz _ (List.getElem_mem hk1)
    refine ct (by simp;omega) (ct (by rw[h5,hsub];simp;omega) ?_)
    rw[h5,hsub]
    simp only[elems_slice,Int.toNat_natCast,ix_map hk1]
    have hlt:lessB f.holds[k-1] f.holds[k]=true:=(List.pairwise_iff_getElem.1 hf.rise) (k-1) k hk1 h1 (by omega)
    refine bdS (less_spec _ _ (by show f.holds[k-1].size≤_;omega) (by show f.holds[k].size≤_;omega)) (cf (by rw[show (dS f.holds[k-1]).s=f.holds[k-1] from rfl,show (dS f.holds[k]).s=f.holds[k] from rfl,hlt];rfl) fin)
   ·exact cf (by simp;omega) fin
  ·exact cf (by simp;omega) rfl
 ·obtain⟨e1,e2⟩:=hf.opn (by simpa using hse)
  refine ct (by simpa using hse) (ct (by simp[e1]) ?_)
  rw[e2];rfl
theorem valid_state {s:St} (hs:StOk s):F53.s FUEL s.enc=some (db true):=by
 have hl:=hs.len
 have l0:=hs.last0
 have l1:=hs.last1
 have f0:=hs.floor0
 have f1:=hs.floor1
 unfold F53.s
 have h0:s.enc.at 0=dl s.nn (s.files.map Fl.enc):=rfl
 have hla:(s.enc.at 1).i=s.last:=rfl
 have hfl:(s.enc.at 2).i=s.floor:=rfl
 rw[h0,hla,hfl]
 refine cf (by simp;omega) (bdS (within_specM _ _) (cf (by simp;omega) (bdS (within_specM _ _) (cf (by simp;omega) ?_))))
 refine goS_rule (fun t:F53.S4=>∃k:Nat,t=⟨dl s.nn (s.files.map Fl.enc),nI s.files.length,(k:Int),s.enc⟩∧k≤s.files.length) (fun t=>s.files.length-t.i5.toNat) (fun o=>o=some (db true)) ?_ _ _ ⟨0,by simp,by omega⟩ (by simp[FUEL];omega)
 rintro _ rec ⟨k,rfl,hk⟩ hrec
 simp only[F53.st4]
 by_cases h1:k<s.files.length
 ·have hadd:ad .i64 (k:Int) 1=((k+1:Nat):Int):=by rw[ad64 (by omega) (by omega)];rfl
  have hf:=hs.files _ (List.getElem_mem h1)
  have i1:=hf.id1
  have hns:=hf.nsz
  refine ct (by simp;omega) (ct (by simp;omega) ?_)
  simp only[elems_slice,Int.toNat_natCast,ix_map h1]
  refine bdS (valid_file hf hs.last1) (cf rfl (cf (by show gtI s.files[k].id s.last=false;simp;omega) ?_))
  have hfind:findI (fun f:Fl=>decide (f.name=s.files[k].name)) s.files=(k:Int):=by
   refine findI_some (findIdx_some_of h1 (fun i hi hik=>?_) (by simp))
   have:=(List.pairwise_iff_getElem.1 hs.names) i k hi h1 hik
   simpa using this
  refine bdS (find_specM s s.files[k].name (by omega)) (cf (by rw[hfind];simp) ?_)
  have fin:rec ⟨dl s.nn (s.files.map Fl.enc),nI s.files.length,ad .i64 (k:Int) 1,s.enc⟩=some (db true):=by
   rw[hadd]
   exact hrec _ ⟨k+1,rfl,by omega⟩ (by simp;omega)
  by_cases hk0:0<k
  ·have hsub:sb .i64 (k:Int) 1=((k-1:Nat):Int):=by rw[sb64 (by omega) (by omega)];omega
   have hk1:k-1<s.files.length:=by omega
   have hlt:=(List.pairwise_iff_getElem.1 hs.rise) (k-1) k hk1 h1 (by omega)
   refine ct (by simp;omega) (ct (by rw[h0,hsub];simp;omega) (cf ?_ fin))
   rw[h0,hsub]
   simp only[elems_slice,Int.toNat_natCast,ix_map hk1]
   show geI s.files[k-1].id s.files[k].id=false
   simp;omega
  ·exact cf (by simp;omega) fin
 ·exact cf (by simp;omega) rfl
end Go.AM.SY
namespace Go.AM.SY
open Go Go.AM
def item (lg:Int) (o:D) (b:ByteArray):D:=da [di lg,o,dS b]
def chunksOf (room:Nat) (o:D) (lg:Int) (s:ByteArray):List D:=
 if h:s.size=0∨room=0 then [] else item lg o (s.extract 0 (min room s.size))::chunksOf room o (lg+1) (s.extract (min room s.size) s.size)
termination_by s.size
decreasing_by simp[ByteArray.size_extract];omega
structure RowIs (n m:Nat) (l L:List D):Prop where
 eq:(l.drop n).take m=L
 len:m=L.length
theorem RowIs.ap {n m:Nat} {l L:List D} (h:RowIs n m l L) (x:D):RowIs 0 (m+1) (ap ((l.drop n).take m) [x]) (L++[x]):=by
 refine⟨?_,by simp[h.len]⟩
 rw[h.eq,Go.AM.ap,List.drop_zero,List.take_of_length_le (by simp[h.len])]
theorem chunk_loop {S X:Type} {st:S→(S→Option D)→(X→Option D)→Option D} {mk:Int→ByteArray→Nat→Nat→Bool→List D→S} {ex:Int→ByteArray→Nat→Nat→Bool→List D→X} {room:Nat} {o:D} {lg:Int}
  (hst:∀i s n m b l rec K,st (mk i s n m b l) rec K=(cond (gtI (nI s.size) 0) (cond (true&&(leI 0 (mini (room:Int) (nI s.size)))&&(leI (mini (room:Int) (nI s.size)) (nI s.size))&&(leI (nI s.size) (nI s.size))) (cond (mx (m+1)) (cond ((leI 0 (mini (room:Int) (nI s.size)))&&(leI (mini (room:Int) (nI s.size)) (nI s.size))&&(leI (nI s.size) (nI s.size))&&(leI (nI s.size) (nI s.size)))
   (rec (mk (ad .i64 i 1) (s.extract (mini (room:Int) (nI s.size)).toNat s.size) 0 (m+1) (b||true) (ap ((l.drop n).take m) [(da [(di (ad .i64 lg i)),o,(dS (s.extract 0 (mini (room:Int) (nI s.size)).toNat))])]))) none) none) none) (K (ex i s n m b l))))
  (hroom:8≤room) (hlg:0≤lg∧lg≤9007199254740992) {Post:Option D→Prop} (K:X→Option D):∀(fuel N:Nat) (i:Nat) (s:ByteArray) (n m:Nat) (b:Bool) (l L:List D),s.size≤8*fuel→fuel+1≤N→i+fuel≤1000000000→m+fuel≤1000000000→RowIs n m l L →
   (∀(i':Int) (s':ByteArray) (n' m':Nat) (b':Bool) (l':List D),RowIs n' m' l' (L++chunksOf room o (lg+i) s)→Post (K (ex i' s' n' m' b' l')))→Post (goS st N (mk (i:Int) s n m b l) K):=by
 have hmini:∀s:ByteArray,mini (room:Int) (nI s.size)=((min room s.size:Nat):Int):=by
  intro s
  show (if (s.size:Int)<(room:Int) then (s.size:Int) else (room:Int))=_
  split<;>omega
 intro fuel
 induction fuel with
 | zero=>
  intro N i s n m b l L hs hN hi hm hr hK
  obtain⟨N,rfl⟩:∃N',N=N'+1:=⟨N-1,by omega⟩
  simp only[goS]
  rw[hst]
  have hs0:s.size=0:=by omega
  refine pcf (by simp[hs0]) ?_
  have:chunksOf room o (lg+i) s=[]:=by rw[chunksOf,dif_pos (.inl hs0)]
  rw[this,List.append_nil] at hK
  exact hK _ _ _ _ _ _ hr
 | succ fuel ih=>
  intro N i s n m b l L hs hN hi hm hr hK
  obtain⟨N,rfl⟩:∃N',N=N'+1:=⟨N-1,by omega⟩
  simp only[goS]
  rw[hst]
  by_cases h0:s.size=0
  ·refine pcf (by simp[h0]) ?_
   have:chunksOf room o (lg+i) s=[]:=by rw[chunksOf,dif_pos (.inl h0)]
   rw[this,List.append_nil] at hK
   exact hK _ _ _ _ _ _ hr
  ·rw[hmini]
   have hmin:min room s.size≤s.size:=Nat.min_le_right _ _
   refine pct (by simp;omega) (pct (by simp;omega) (pct (by simp;omega) (pct (by simp;omega) ?_)))
   rw[ad64 (by omega) (by omega),ad64 (by omega) (by omega),Int.toNat_natCast]
   have hr':=hr.ap (da [(di (lg+(i:Int))),o,(dS (s.extract 0 (min room s.size)))])
   refine ih N (i+1) _ 0 (m+1) _ _ _ ?_ (by omega) (by omega) (by omega) hr' (fun i' s' n' m' b' l' h=>hK i' s' n' m' b' l' ?_)
   ·rw[ByteArray.size_extract];omega
   ·have e:chunksOf room o (lg+i) s=item (lg+i) o (s.extract 0 (min room s.size))::chunksOf room o (lg+i+1) (s.extract (min room s.size) s.size):=by
     rw[chunksOf,dif_neg (by omega)]
    rw[e]
    rw[List.append_assoc] at h
    have e2:lg+((i+1:Nat):Int)=lg+(i:Int)+1:=by omega
    rw[e2] at h
    exact h
def evBytes (e:Ev):ByteArray:=((F55.s FUEL e.enc).getD (.tup [])).at 0 |>.s
def lsz (l:List Ev):Nat:=(l.map fun e=>tlen (evBytes e).size).sum
theorem lsz_succ {l:List Ev} {k:Nat} (h:k<l.length):lsz (l.take (k+1))=lsz (l.take k)+tlen (evBytes l[k]).size:=by
 unfold lsz
 rw[List.take_succ_eq_append_getElem h]
 simp only[List.map_append,List.sum_append,List.map_cons,List.map_nil,List.sum_cons,List.sum_nil,Nat.add_zero]
theorem lsz_append (a b:List Ev):lsz (a++b)=lsz a+lsz b:=by simp[lsz]
structure EvSm (e:Ev):Prop where
 name:e.name.size≤1000
 sum:e.sum.length=32
theorem evBytes_le {e:Ev} (h:EvSm e):(evBytes e).size≤4200:=by
 unfold evBytes
 have:=h.name
 rcases put_spec e (by omega) h.sum with h1 | ⟨b,h1,h2⟩
 ·rw[h1];simp
 ·rw[h2];simpa using (by omega:b.size≤4200)
theorem lsz_le:∀(l:List Ev),(∀e∈l,EvSm e)→lsz l≤l.length*4209
 | [],_=>by simp[lsz]
 | e::l,h=>by
  have h1:=lsz_le l fun x hx=>h x (by simp[hx])
  have h2:=evBytes_le (h e (by simp))
  have h3:=tlen_le (evBytes e).size
  simp only[lsz,List.map_cons,List.sum_cons,List.length_cons,Nat.add_mul] at h1 ⊢
  omega
theorem lsz_take_le (l:List Ev) (k:Nat):lsz (l.take k)≤lsz l:=by
 have:lsz l=lsz (l.take k)+lsz (l.drop k):=by rw[←lsz_append,List.take_append_drop]
 omega
def filesOf (room:Nat) (l:List Fl):List D:=(l.map fun f=>chunksOf room (di f.id) (4096*f.id) f.data).flatten
def itemsOf (room:Nat) (s:St) (hd lg:ByteArray):List D:=chunksOf room (di 0) 0 hd++chunksOf room (di 0) 1000 lg++filesOf room s.files
theorem filesOf_succ {room:Nat} {l:List Fl} {k:Nat} (h:k<l.length):filesOf room (l.take (k+1))=filesOf room (l.take k)++chunksOf room (di l[k].id) (4096*l[k].id) l[k].data:=by
 unfold filesOf
 rw[List.take_succ_eq_append_getElem h]
 simp only[List.map_append,List.flatten_append,List.map_cons,List.map_nil,List.flatten_cons,List.flatten_nil,List.append_nil]
theorem chunksOf_len (room:Nat) (hroom:8≤room):∀(n:Nat) (s:ByteArray) (o:D) (lg:Int),s.size≤n→(chunksOf room o lg s).length≤s.size:=by
 intro n
 induction n with
 | zero=>intro s o lg h;have h0:s.size=0:=by omega
         rw[chunksOf,dif_pos (.inl h0)];simp
 | succ n ih=>
  intro s o lg h
  rw[chunksOf]
  split
  ·simp
  ·rename_i h0
   have:=ih (s.extract (min room s.size) s.size) o (lg+1) (by rw[ByteArray.size_extract];omega)
   rw[ByteArray.size_extract] at this
   simp only[List.length_cons]
   omega
def putK:F17.X6→Option D:=fun x=>match x with | .e0 d22 i23 d27 i29 d30 n31 n32 b33 l34=>(some (D.tup [(dl false []),(db false)])) | .e1 d22 i23 b24 l25 b26 d30 n31 n32 b33 l34=>(bd (F60.s FUEL d30 (nI d22.elems.length)) fun r52=>(goS (F17.st110_1 FUEL) FUEL ⟨0,d30,n31,n32,b33,l34,r52,i23,0,0,0,0,false,[]⟩ fun x=>match x with | .e0 d54 n55 n56 b57 l58 d59 i60 i61 i62 n63 n64 b65 l66=>(cond (true&&((bif b57 then (decide (0<n56)) else true)&&(mx n56))) (cond (((Nat.beq n63 n63)&&(Nat.beq n64 n64))&&true) (cond (((Nat.beq n63 n63)&&(Nat.beq n64 n64))&&true) (goS (F17.st110_1_9_17 FUEL) FUEL ⟨0,d54,n55,n56,d59,i60,i61,i62,n63,n64,n63,n64,(ofBytes ((l58.drop n55).take n56)),i23,0,1000,n63,n64,b65,l66⟩ fun x=>match x with | .e0 d68 n69 n70 d71 i72 i73 i74 n75 n76 n77 n78 s79 i80 i81 i82 n83 n84 b85 l86=>(goS (F17.st16 FUEL) FUEL ⟨i23,b24,l25,b26,(d68.at 0),(nI (d68.at 0).elems.length),0,d68,n69,n70,d71,i72,i73,i74,n75,n76,n83,n84,s79,i80,i81,i82,n83,n84,b85,l86⟩ fun x=>match x with | .e0 b88 l89 b90 d94 n95 n96 d97 i98 i99 i100 n101 n102 n103 n104 s105 i106 i107 i108 n109 n110 b111 l112=>(cond (gtI (nI n104) 400) (some (D.tup [(dl false []),(db false)])) (some (D.tup [(dl b111 ((l112.drop n103).take n104)),(db true)]))))) none) none) none))) | .e2 d35 i36 d40 i42 d43 n44 n45 b46 l47=>(some (D.tup [(dl false []),(db false)])) | .e3 d35 i36 b37 l38 b39 d43 n44 n45 b46 l47=>(bd (F60.s FUEL d43 (nI d35.elems.length)) fun r138=>(goS (F17.st110_1_8_9 FUEL) FUEL ⟨0,d43,n44,n45,b46,l47,r138,i36,0,0,0,0,false,[]⟩ fun x=>match x with | .e0 d140 n141 n142 b143 l144 d145 i146 i147 i148 n149 n150 b151 l152=>(cond (true&&((bif b143 then (decide (0<n142)) else true)&&(mx n142))) (cond (((Nat.beq n149 n149)&&(Nat.beq n150 n150))&&true) (cond (((Nat.beq n149 n149)&&(Nat.beq n150 n150))&&true) (goS (F17.st110_1_9_17_w2 FUEL) FUEL ⟨0,d140,n141,n142,d145,i146,i147,i148,n149,n150,n149,n150,(ofBytes ((l144.drop n141).take n142)),i36,0,1000,n149,n150,b151,l152⟩ fun x=>match x with | .e0 d154 n155 n156 d157 i158 i159 i160 n161 n162 n163 n164 s165 i166 i167 i168 n169 n170 b171 l172=>(goS (F17.st16_11_0 FUEL) FUEL ⟨i36,b37,l38,b39,(d154.at 0),(nI (d154.at 0).elems.length),0,d154,n155,n156,d157,i158,i159,i160,n161,n162,n169,n170,s165,i166,i167,i168,n169,n170,b171,l172⟩ fun x=>match x with | .e0 b174 l175 b176 d180 n181 n182 d183 i184 i185 i186 n187 n188 n189 n190 s191 i192 i193 i194 n195 n196 b197 l198=>(cond (gtI (nI n190) 400) (some (D.tup [(dl false []),(db false)])) (some (D.tup [(dl b197 ((l198.drop n189).take n190)),(db true)]))))) none) none) none)))
theorem builder_ok {b:Bool} {n:Nat} (h:b=true→0<n) (hn:n≤100000000):(true&&((bif b then (decide (0<n)) else true)&&(mx n)))=true:=by
 cases b with
 | false=>simp;omega
 | true=>have:=h rfl;simp;omega
section
variable {s:St} (hs:StOk s) (nn:Bool) (evs:List Ev) (hev:∀e∈evs,EvSm e) (hel:evs.length≤400) (room:Nat) (hr0:8≤room) (hr1:room≤224)
 {Post:Option D→Prop} (h0:Post (some (.tup [dl false [],db false])))
 (h1:∀(b:Bool) (hd lg:ByteArray),hd.size=Go.AM.SY.hlen s (nI evs.length)→lg.size=lsz evs→(itemsOf room s hd lg).length≤400→Post (some (.tup [dl b (itemsOf room s hd lg),db true])))
include hs hev hel hr0 hr1 h0 h1
theorem tail_A (b24:Bool) (l25:List D) (b26:Bool) (a c:Nat) (b33:Bool) (l34:List D) (hf:Full l34 a c) (hc:c=lsz evs) (hb:b33=true→0<c):Post (putK (.e1 (dl nn (evs.map Ev.enc)) (room:Int) b24 l25 b26 s.enc a c b33 l34)):=by
 obtain⟨hd,x1,x2⟩:=head_spec s hs (nI evs.length)
 have hl1:=hs.len
 have hl2:=fsum_le hs.files
 have hl3:=nlen_le s.last
 have hl4:=nlen_le s.floor
 have hl5:=nlen_le (s.files.length:Int)
 have hl6:=nlen_le (nI evs.length)
 have hmul:s.files.length*6000≤12*6000:=Nat.mul_le_mul_right _ hl1
 have hhd:hd.size≤80000:=by rw[x2];unfold Go.AM.SY.hlen;omega
 have hls:=lsz_le evs hev
 have hmul2:evs.length*4209≤400*4209:=Nat.mul_le_mul_right _ hel
 show Post (bd (F60.s FUEL s.enc (nI (evs.map Ev.enc).length)) _)
 rw[List.length_map]
 refine pbd x1 ?_
 refine chunk_loop (st:=F17.st110_1 FUEL) (mk:=fun i s' n m b l=>⟨i,s.enc,a,c,b33,l34,dS s',(room:Int),0,0,n,m,b,l⟩) (ex:=fun i s' n m b l=>.e0 s.enc a c b33 l34 (dS s') (room:Int) 0 0 n m b l) (o:=di 0) (lg:=0) (fun _ _ _ _ _ _ _ _=>rfl) hr0 (by omega) _ hd.size FUEL 0 hd 0 0 false [] [] (by omega) (by simp only[FUEL];omega) (by omega) (by omega) ⟨rfl,rfl⟩ (fun i1 s1 n1 m1 b1 l1 hw1=>?_)
 have hk1:=chunksOf_len room hr0 _ hd (di 0) (0+((0:Nat):Int)) (Nat.le_refl _)
 have hm1:=hw1.len
 simp only[List.nil_append] at hm1
 refine pct (builder_ok hb (by omega)) (pct (by simp) (pct (by simp) ?_))
 obtain⟨lg,hlg⟩:∃lg,lg=ofBytes ((l34.drop a).take c):=⟨_,rfl⟩
 have hlgs:lg.size=lsz evs:=by rw[hlg,byte_size,full_len hf,hc]
 rw[←hlg]
 refine chunk_loop (st:=F17.st110_1_9_17 FUEL) (mk:=fun i s' n m b l=>⟨i,s.enc,a,c,dS s1,(room:Int),0,0,n1,m1,n1,m1,s',(room:Int),0,1000,n,m,b,l⟩) (ex:=fun i s' n m b l=>.e0 s.enc a c (dS s1) (room:Int) 0 0 n1 m1 n1 m1 s' (room:Int) 0 1000 n m b l) (o:=di 0) (lg:=1000) (fun _ _ _ _ _ _ _ _=>rfl) hr0 (by omega) _ ((lg.size+7) / 8) FUEL 0 lg n1 m1 b1 l1 _ (by omega) (by simp only[FUEL];omega) (by omega) (by omega) hw1 (fun i2 s2 n2 m2 b2 l2 hw2=>?_)
 have hk2:=chunksOf_len room hr0 _ lg (di 0) (1000+((0:Nat):Int)) (Nat.le_refl _)
 have hm2:=hw2.len
 simp only[List.nil_append,List.length_append] at hm2
 have e0:s.enc.at 0=dl s.nn (s.files.map Fl.enc):=rfl
 show Post (goS (F17.st16 FUEL) FUEL ⟨(room:Int),b24,l25,b26,(s.enc.at 0),(nI (s.enc.at 0).elems.length),0,s.enc,a,c,dS s1,(room:Int),0,0,n1,m1,n2,m2,s2,(room:Int),0,1000,n2,m2,b2,l2⟩ _)
 rw[e0]
 simp only[elems_slice,List.length_map]
 obtain⟨L2,hL2⟩:∃L2,L2=[]++chunksOf room (di 0) (0+((0:Nat):Int)) hd++chunksOf room (di 0) (1000+((0:Nat):Int)) lg:=⟨_,rfl⟩
 rw[←hL2] at hw2
 have hfl:∀k,(filesOf room (s.files.take k)).length≤8000:=by
  intro k
  have:∀(l:List Fl),(∀f∈l,FlOk f s.last)→(filesOf room l).length≤l.length*600:=by
   intro l
   induction l with
   | nil=>intro _;simp[filesOf]
   | cons f l ih=>
    intro h
    have i1:=ih fun x hx=>h x (by simp[hx])
    have i2:=chunksOf_len room hr0 _ f.data (di f.id) (4096*f.id) (Nat.le_refl _)
    have i3:=(h f (by simp)).data
    simp only[filesOf,List.map_cons,List.flatten_cons,List.length_append,List.length_cons,Nat.add_mul] at i1 ⊢
    omega
  have h1:=this (s.files.take k) fun f hf=>hs.files f (List.mem_of_mem_take hf)
  have h2:(s.files.take k).length≤12:=by simp;omega
  have h3:(s.files.take k).length*600≤12*600:=Nat.mul_le_mul_right _ h2
  omega
 refine goS_rule (fun t:F17.S16=>∃(k n m:Nat) (b:Bool) (l:List D),t=⟨(room:Int),b24,l25,b26,dl s.nn (s.files.map Fl.enc),nI s.files.length,(k:Int),s.enc,a,c,dS s1,(room:Int),0,0,n1,m1,n,m,s2,(room:Int),0,1000,n2,m2,b,l⟩∧k≤s.files.length∧RowIs n m l (L2++filesOf room (s.files.take k))) (fun t=>s.files.length-t.i93.toNat) Post ?_ _ _ ⟨0,n2,m2,b2,l2,rfl,by omega,by simpa[filesOf] using hw2⟩ (by simp[FUEL];omega)
 rintro _ rec ⟨k,n,m,b,l,rfl,hk,hw⟩ hrec
 simp only[F17.st16]
 have hmL:=hw.len
 have hfk:=hfl k
 rw[List.length_append,hL2] at hmL
 simp only[List.nil_append,List.length_append] at hmL
 by_cases hkl:k<s.files.length
 ·have hadd:ad .i64 (k:Int) 1=((k+1:Nat):Int):=by rw[ad64 (by omega) (by omega)];rfl
  have hfo:=hs.files _ (List.getElem_mem hkl)
  obtain⟨f,hfe⟩:∃f,f=s.files[k]:=⟨_,rfl⟩
  have hlast:=hs.last1
  have hi0:=hfo.id0
  have hi1:=hfo.id1
  have hda:=hfo.data
  refine pct (by simp;omega) (pct (by simp;omega) ?_)
  simp only[elems_slice,Int.toNat_natCast,ix_map hkl]
  rw[←hfe] at hi0 hi1 hda ⊢
  rw[show f.enc.at 2=dS f.data from rfl,show f.enc.at 0=di f.id from rfl,i_int,ml64 (by omega) (by omega)]
  refine chunk_loop (st:=F17.st110_1_10_25 FUEL) (mk:=fun i s' n m b l=>⟨i,s.enc,a,c,dS s1,(room:Int),0,0,n1,m1,n,m,s2,(room:Int),0,1000,n2,m2,f.enc,dS s',(room:Int),di f.id,4096*f.id,b,l⟩) (ex:=fun i s' n m b l=>.e0 s.enc a c (dS s1) (room:Int) 0 0 n1 m1 n m s2 (room:Int) 0 1000 n2 m2 f.enc (dS s') (room:Int) (di f.id) (4096*f.id) b l) (o:=di f.id) (lg:=4096*f.id) (fun _ _ _ _ _ _ _ _=>rfl) hr0 (by omega) _ f.data.size FUEL 0 f.data n m b l _ (by omega) (by simp only[FUEL];omega) (by omega) (by omega) hw (fun i3 s3 n3 m3 b3 l3 hw3=>?_)
  refine hrec _ ⟨k+1,n3,m3,b3,l3,?_,by omega,?_⟩ ?_
  ·rw[hadd]
  ·rw[filesOf_succ hkl,←hfe,←List.append_assoc]
   have e4:4096*f.id+((0:Nat):Int)=4096*f.id:=by omega
   rw[e4] at hw3
   exact hw3
  ·rw[hadd];simp;omega
 ·refine pcf (by simp;omega) ?_
  have hke:k=s.files.length:=by omega
  subst hke
  rw[List.take_length,hL2] at hw
  have e5:(0:Int)+((0:Nat):Int)=0:=rfl
  have e6:(1000:Int)+((0:Nat):Int)=1000:=rfl
  rw[e5,e6,List.nil_append] at hw
  by_cases h4:400<m
  ·exact pct (by simp;omega) h0
  ·refine pcf (by simp;omega) ?_
   rw[hw.eq]
   exact h1 b hd lg x2 hlgs (by have:=hw.len;unfold itemsOf;omega)
theorem tail_B (b24:Bool) (l25:List D) (b26:Bool) (a c:Nat) (b33:Bool) (l34:List D) (hf:Full l34 a c) (hc:c=lsz evs) (hb:b33=true→0<c):Post (putK (.e3 (dl nn (evs.map Ev.enc)) (room:Int) b24 l25 b26 s.enc a c b33 l34)):=by
 obtain⟨hd,x1,x2⟩:=head_spec s hs (nI evs.length)
 have hl1:=hs.len
 have hl2:=fsum_le hs.files
 have hl3:=nlen_le s.last
 have hl4:=nlen_le s.floor
 have hl5:=nlen_le (s.files.length:Int)
 have hl6:=nlen_le (nI evs.length)
 have hmul:s.files.length*6000≤12*6000:=Nat.mul_le_mul_right _ hl1
 have hhd:hd.size≤80000:=by rw[x2];unfold Go.AM.SY.hlen;omega
 have hls:=lsz_le evs hev
 have hmul2:evs.length*4209≤400*4209:=Nat.mul_le_mul_right _ hel
 show Post (bd (F60.s FUEL s.enc (nI (evs.map Ev.enc).length)) _)
 rw[List.length_map]
 refine pbd x1 ?_
 refine chunk_loop (st:=F17.st110_1_8_9 FUEL) (mk:=fun i s' n m b l=>⟨i,s.enc,a,c,b33,l34,dS s',(room:Int),0,0,n,m,b,l⟩) (ex:=fun i s' n m b l=>.e0 s.enc a c b33 l34 (dS s') (room:Int) 0 0 n m b l) (o:=di 0) (lg:=0) (fun _ _ _ _ _ _ _ _=>rfl) hr0 (by omega) _ hd.size FUEL 0 hd 0 0 false [] [] (by omega) (by simp only[FUEL];omega) (by omega) (by omega) ⟨rfl,rfl⟩ (fun i1 s1 n1 m1 b1 l1 hw1=>?_)
 have hk1:=chunksOf_len room hr0 _ hd (di 0) (0+((0:Nat):Int)) (Nat.le_refl _)
 have hm1:=hw1.len
 simp only[List.nil_append] at hm1
 refine pct (builder_ok hb (by omega)) (pct (by simp) (pct (by simp) ?_))
 obtain⟨lg,hlg⟩:∃lg,lg=ofBytes ((l34.drop a).take c):=⟨_,rfl⟩
 have hlgs:lg.size=lsz evs:=by rw[hlg,byte_size,full_len hf,hc]
 rw[←hlg]
 refine chunk_loop (st:=F17.st110_1_9_17_w2 FUEL) (mk:=fun i s' n m b l=>⟨i,s.enc,a,c,dS s1,(room:Int),0,0,n1,m1,n1,m1,s',(room:Int),0,1000,n,m,b,l⟩) (ex:=fun i s' n m b l=>.e0 s.enc a c (dS s1) (room:Int) 0 0 n1 m1 n1 m1 s' (room:Int) 0 1000 n m b l) (o:=di 0) (lg:=1000) (fun _ _ _ _ _ _ _ _=>rfl) hr0 (by omega) _ ((lg.size+7) / 8) FUEL 0 lg n1 m1 b1 l1 _ (by omega) (by simp only[FUEL];omega) (by omega) (by omega) hw1 (fun i2 s2 n2 m2 b2 l2 hw2=>?_)
 have hk2:=chunksOf_len room hr0 _ lg (di 0) (1000+((0:Nat):Int)) (Nat.le_refl _)
 have hm2:=hw2.len
 simp only[List.nil_append,List.length_append] at hm2
 have e0:s.enc.at 0=dl s.nn (s.files.map Fl.enc):=rfl
 show Post (goS (F17.st16_11_0 FUEL) FUEL ⟨(room:Int),b24,l25,b26,(s.enc.at 0),(nI (s.enc.at 0).elems.length),0,s.enc,a,c,dS s1,(room:Int),0,0,n1,m1,n2,m2,s2,(room:Int),0,1000,n2,m2,b2,l2⟩ _)
 rw[e0]
 simp only[elems_slice,List.length_map]
 obtain⟨L2,hL2⟩:∃L2,L2=[]++chunksOf room (di 0) (0+((0:Nat):Int)) hd++chunksOf room (di 0) (1000+((0:Nat):Int)) lg:=⟨_,rfl⟩
 rw[←hL2] at hw2
 have hfl:∀k,(filesOf room (s.files.take k)).length≤8000:=by
  intro k
  have:∀(l:List Fl),(∀f∈l,FlOk f s.last)→(filesOf room l).length≤l.length*600:=by
   intro l
   induction l with
   | nil=>intro _;simp[filesOf]
   | cons f l ih=>
    intro h
    have i1:=ih fun x hx=>h x (by simp[hx])
    have i2:=chunksOf_len room hr0 _ f.data (di f.id) (4096*f.id) (Nat.le_refl _)
    have i3:=(h f (by simp)).data
    simp only[filesOf,List.map_cons,List.flatten_cons,List.length_append,List.length_cons,Nat.add_mul] at i1 ⊢
    omega
  have h1:=this (s.files.take k) fun f hf=>hs.files f (List.mem_of_mem_take hf)
  have h2:(s.files.take k).length≤12:=by simp;omega
  have h3:(s.files.take k).length*600≤12*600:=Nat.mul_le_mul_right _ h2
  omega
 refine goS_rule (fun t:F17.S16_11_0=>∃(k n m:Nat) (b:Bool) (l:List D),t=⟨(room:Int),b24,l25,b26,dl s.nn (s.files.map Fl.enc),nI s.files.length,(k:Int),s.enc,a,c,dS s1,(room:Int),0,0,n1,m1,n,m,s2,(room:Int),0,1000,n2,m2,b,l⟩∧k≤s.files.length∧RowIs n m l (L2++filesOf room (s.files.take k))) (fun t=>s.files.length-t.i179.toNat) Post ?_ _ _ ⟨0,n2,m2,b2,l2,rfl,by omega,by simpa[filesOf] using hw2⟩ (by simp[FUEL];omega)
 rintro _ rec ⟨k,n,m,b,l,rfl,hk,hw⟩ hrec
 simp only[F17.st16_11_0]
 have hmL:=hw.len
 have hfk:=hfl k
 rw[List.length_append,hL2] at hmL
 simp only[List.nil_append,List.length_append] at hmL
 by_cases hkl:k<s.files.length
 ·have hadd:ad .i64 (k:Int) 1=((k+1:Nat):Int):=by rw[ad64 (by omega) (by omega)];rfl
  have hfo:=hs.files _ (List.getElem_mem hkl)
  obtain⟨f,hfe⟩:∃f,f=s.files[k]:=⟨_,rfl⟩
  have hlast:=hs.last1
  have hi0:=hfo.id0
  have hi1:=hfo.id1
  have hda:=hfo.data
  refine pct (by simp;omega) (pct (by simp;omega) ?_)
  simp only[elems_slice,Int.toNat_natCast,ix_map hkl]
  rw[←hfe] at hi0 hi1 hda ⊢
  rw[show f.enc.at 2=dS f.data from rfl,show f.enc.at 0=di f.id from rfl,i_int,ml64 (by omega) (by omega)]
  refine chunk_loop (st:=F17.st110_1_10_25_w2 FUEL) (mk:=fun i s' n m b l=>⟨i,s.enc,a,c,dS s1,(room:Int),0,0,n1,m1,n,m,s2,(room:Int),0,1000,n2,m2,f.enc,dS s',(room:Int),di f.id,4096*f.id,b,l⟩) (ex:=fun i s' n m b l=>.e0 s.enc a c (dS s1) (room:Int) 0 0 n1 m1 n m s2 (room:Int) 0 1000 n2 m2 f.enc (dS s') (room:Int) (di f.id) (4096*f.id) b l) (o:=di f.id) (lg:=4096*f.id) (fun _ _ _ _ _ _ _ _=>rfl) hr0 (by omega) _ f.data.size FUEL 0 f.data n m b l _ (by omega) (by simp only[FUEL];omega) (by omega) (by omega) hw (fun i3 s3 n3 m3 b3 l3 hw3=>?_)
  refine hrec _ ⟨k+1,n3,m3,b3,l3,?_,by omega,?_⟩ ?_
  ·rw[hadd]
  ·rw[filesOf_succ hkl,←hfe,←List.append_assoc]
   have e4:4096*f.id+((0:Nat):Int)=4096*f.id:=by omega
   rw[e4] at hw3
   exact hw3
  ·rw[hadd];simp;omega
 ·refine pcf (by simp;omega) ?_
  have hke:k=s.files.length:=by omega
  subst hke
  rw[List.take_length,hL2] at hw
  have e5:(0:Int)+((0:Nat):Int)=0:=rfl
  have e6:(1000:Int)+((0:Nat):Int)=1000:=rfl
  rw[e5,e6,List.nil_append] at hw
  by_cases h4:400<m
  ·exact pct (by simp;omega) h0
  ·refine pcf (by simp;omega) ?_
   rw[hw.eq]
   exact h1 b hd lg x2 hlgs (by have:=hw.len;unfold itemsOf;omega)
end
end Go.AM.SY
namespace Go.AM.SY
open Go Go.AM
section
variable {s:St} (hs:StOk s) (nn:Bool) (evs:List Ev) (hev:∀e∈evs,EvSm e) (hel:evs.length≤400) (room:Nat) (hr0:8≤room) (hr1:room≤224)
 {Post:Option D→Prop} (h0:Post (some (.tup [dl false [],db false])))
 (h1:∀(b:Bool) (hd lg:ByteArray),hd.size=Go.AM.SY.hlen s (nI evs.length)→lg.size=lsz evs→(itemsOf room s hd lg).length≤400→Post (some (.tup [dl b (itemsOf room s hd lg),db true])))
include hs hev hel hr0 hr1 h0 h1
theorem put_evs:Post (goS (F17.st6 FUEL) FUEL (.s0 (dl nn (evs.map Ev.enc)) (room:Int) false [] false (dl nn (evs.map Ev.enc)) (nI evs.length) 0 s.enc 0 0 false []) putK):=by
 have hls:=lsz_le evs hev
 have hmul2:evs.length*4209≤400*4209:=Nat.mul_le_mul_right _ hel
 refine goS_rule (fun t:F17.S6=>(t = .s0 (dl nn (evs.map Ev.enc)) (room:Int) false [] false (dl nn (evs.map Ev.enc)) (nI evs.length) 0 s.enc 0 0 false []) ∨
  ∃(k a:Nat) (b:Bool) (l:List D),t = .s1 (dl nn (evs.map Ev.enc)) (room:Int) false [] false (dl nn (evs.map Ev.enc)) (nI evs.length) (k:Int) s.enc a (lsz (evs.take k)) b l∧1≤k∧k≤evs.length∧Full l a (lsz (evs.take k))∧0<lsz (evs.take k))
  (fun t=>match t with | .s0 ..=>evs.length+1 | .s1 _ _ _ _ _ _ _ i _ _ _ _ _=>evs.length-i.toNat) Post ?_ _ _ (.inl rfl) (by simp[FUEL];omega)
 have one:∀(k:Nat) (h:k<evs.length),(∃b,F55.s FUEL evs[k].enc=some (.tup [dS b,db false]))∨∃t,F55.s FUEL evs[k].enc=some (.tup [dS (evBytes evs[k]),db true])∧F57.s FUEL (evBytes evs[k])=some (dS t)∧t.size=tlen (evBytes evs[k]).size:=by
  intro k h
  have he:=hev _ (List.getElem_mem h)
  have hen:=he.name
  rcases put_spec evs[k] (by omega) he.sum with p1 | ⟨b,p1,p2⟩
  ·exact .inl ⟨_,p1⟩
  ·have hb:evBytes evs[k]=b:=by unfold evBytes;rw[p2];rfl
   obtain⟨t,t1,t2⟩:=text_spec (evBytes evs[k]) (by have:=evBytes_le he;omega)
   exact .inr ⟨t,by rw[hb];exact p2,t1,t2⟩
 rintro _ rec (rfl | ⟨k,a,b,l,rfl,hk1,hk,hf,hpos⟩) hrec
 ·simp only[F17.st6]
  by_cases h5:0<evs.length
  ·refine pct (by simp;omega) (pct (by simp;omega) ?_)
   simp only[elems_slice,show (0:Int).toNat=0 from rfl,ix_map h5]
   rcases one 0 h5 with ⟨b,p⟩ | ⟨t,p1,p2,p3⟩
   ·exact pbd p (pct rfl h0)
   ·have ht:=tlen_le (evBytes evs[0]).size
    have hev0:=evBytes_le (hev _ (List.getElem_mem h5))
    refine pbd p1 (pcf rfl (pbd (x:=dS t) p2 (pct (by simp[byte_len];omega) ?_)))
    have hL:lsz (evs.take 1)=t.size:=by rw[lsz_succ h5,p3];simp[lsz]
    have hF:=full_ap (show Full [] 0 0 by simp[Full]) (bytesOf t)
    rw[byte_len] at hF
    have ha1:ad .i64 (0:Int) 1=((1:Nat):Int):=by rw[ad64 (by omega) (by omega)];rfl
    refine hrec _ (.inr ⟨1,0,false||!(bytesOf (dS t).s).isEmpty,ap ((([]:List D).drop 0).take 0) (bytesOf (dS t).s),?_,by omega,by omega,?_,by omega⟩) ?_
    ·rw[ha1,hL,Nat.zero_add]
     simp only[s_str,byte_len]
    ·rw[hL];simpa using hF
    ·show evs.length-(ad .i64 (0:Int) 1).toNat<evs.length+1
     omega
  ·have hnil:evs=[]:=List.eq_nil_of_length_eq_zero (by omega)
   refine pcf (by simp;omega) ?_
   exact tail_A hs nn evs hev hel room hr0 hr1 h0 h1 false [] false 0 0 false [] (by simp[Full]) (by rw[hnil];rfl) (by simp)
 ·simp only[F17.st6]
  have hlt:=lsz_take_le evs k
  by_cases h5:k<evs.length
  ·have hadd:ad .i64 (k:Int) 1=((k+1:Nat):Int):=by rw[ad64 (by omega) (by omega)];rfl
   refine pct (by simp;omega) (pct (by simp;omega) ?_)
   simp only[elems_slice,Int.toNat_natCast,ix_map h5]
   rcases one k h5 with ⟨b',p⟩ | ⟨t,p1,p2,p3⟩
   ·exact pbd p (pct rfl h0)
   ·have ht:=tlen_le (evBytes evs[k]).size
    have hev0:=evBytes_le (hev _ (List.getElem_mem h5))
    refine pbd p1 (pcf rfl (pbd (x:=dS t) p2 (pct (by simp[byte_len];omega) ?_)))
    have hF:=full_ap hf (bytesOf t)
    rw[byte_len] at hF
    have hL:lsz (evs.take (k+1))=lsz (evs.take k)+t.size:=by rw[lsz_succ h5,p3]
    refine hrec _ (.inr ⟨k+1,0,b||!(bytesOf (dS t).s).isEmpty,ap ((l.drop a).take (lsz (evs.take k))) (bytesOf (dS t).s),?_,by omega,by omega,?_,by omega⟩) ?_
    ·rw[hadd,hL]
     simp only[s_str,byte_len]
    ·rw[hL];exact hF
    ·show evs.length-(ad .i64 (k:Int) 1).toNat<evs.length-(k:Int).toNat
     rw[hadd];simp;omega
  ·refine pcf (by simp;omega) ?_
   have hke:k=evs.length:=by omega
   subst hke
   rw[List.take_length] at hf hpos ⊢
   exact tail_B hs nn evs hev hel room hr0 hr1 h0 h1 false [] false a _ b l hf rfl (fun _=>hpos)
end
theorem put_items {s:St} (hs:StOk s) (nn:Bool) (evs:List Ev) (hev:∀e∈evs,EvSm e) (room:Int) {Post:Option D→Prop} (h0:Post (some (.tup [dl false [],db false])))
  (h1:∀(r:Nat),room=(r:Int)→8≤r→r≤224→evs.length≤400→∀(b:Bool) (hd lg:ByteArray),hd.size=hlen s (nI evs.length)→lg.size=lsz evs→(itemsOf r s hd lg).length≤400→Post (some (.tup [dl b (itemsOf r s hd lg),db true]))) :
  Post (F17.s FUEL s.enc (dl nn (evs.map Ev.enc)) room):=by
 have hl:=hs.len
 unfold F17.s
 refine pbd (valid_state hs) (pcf rfl ?_)
 by_cases c1:room<8
 ·exact pct (by simpa using c1) h0
 refine pcf (by simp;omega) ?_
 by_cases c2:224<room
 ·exact pct (by simpa using c2) h0
 refine pcf (by simp;omega) ?_
 simp only[elems_slice,List.length_map]
 by_cases c3:400<evs.length
 ·exact pct (by simp;omega) h0
 refine pcf (by simp;omega) ?_
 obtain⟨r,hr⟩:∃r:Nat,room=(r:Int):=⟨room.toNat,by omega⟩
 have rest:Post (goS (F17.st6 FUEL) FUEL (.s0 (dl nn (evs.map Ev.enc)) room false [] false (dl nn (evs.map Ev.enc)) (nI evs.length) 0 s.enc 0 0 false []) putK):=by
  rw[hr]
  exact put_evs hs nn evs hev (by omega) r (by omega) (by omega) h0 (h1 r hr (by omega) (by omega) (by omega))
 have e0:s.enc.at 0=dl s.nn (s.files.map Fl.enc):=rfl
 rw[e0]
 simp only[elems_slice,List.length_map]
 refine goS_rule (fun t:F17.S78_2=>∃k:Nat,t=⟨dl s.nn (s.files.map Fl.enc),nI s.files.length,(k:Int),s.enc⟩∧k≤s.files.length) (fun t=>s.files.length-t.i4.toNat) Post ?_ _ _ ⟨0,rfl,by omega⟩ (by simp[FUEL];omega)
 rintro _ rec ⟨k,rfl,hk⟩ hrec
 simp only[F17.st78_2]
 by_cases h5:k<s.files.length
 ·have hadd:ad .i64 (k:Int) 1=((k+1:Nat):Int):=by rw[ad64 (by omega) (by omega)];rfl
  refine pct (by simp;omega) (pct (by simp;omega) ?_)
  simp only[elems_slice,Int.toNat_natCast,ix_map h5]
  have h52:F52.s FUEL s.files[k].enc=some (db (gtI s.files[k].id 134217728)):=rfl
  refine pbd h52 ?_
  by_cases c4:gtI s.files[k].id 134217728=true
  ·refine pct c4 ?_
   exact pct (by simp) h0
  ·refine pcf (by simpa using c4) ?_
   rw[hadd]
   exact hrec _ ⟨k+1,rfl,by omega⟩ (by simp;omega)
 ·refine pcf (by simp;omega) ?_
  exact rest
end Go.AM.SY
namespace Go.AM.SY
open Go Go.AM
structure It where
 lg:Int
 own:D
 tx:ByteArray
def It.enc (x:It):D:=item x.lg x.own x.tx
def chT (room:Nat) (o:D) (lg:Int) (s:ByteArray):List It:=
 if h:s.size=0∨room=0 then [] else ⟨lg,o,s.extract 0 (min room s.size)⟩::chT room o (lg+1) (s.extract (min room s.size) s.size)
termination_by s.size
decreasing_by simp[ByteArray.size_extract];omega
theorem chunksOf_eq (room:Nat) (o:D):∀(n:Nat) (lg:Int) (s:ByteArray),s.size≤n→chunksOf room o lg s=(chT room o lg s).map It.enc:=by
 intro n
 induction n with
 | zero=>
  intro lg s h
  have h0:s.size=0:=by omega
  rw[chunksOf,chT,dif_pos (.inl h0),dif_pos (.inl h0)];rfl
 | succ n ih=>
  intro lg s h
  rw[chunksOf,chT]
  split
  ·rfl
  ·rename_i h0
   rw[ih _ _ (by rw[ByteArray.size_extract];omega)]
   rfl
theorem chT_nil {room:Nat} {o:D} {lg:Int} {s:ByteArray} (h:s.size=0):chT room o lg s=[]:=by rw[chT,dif_pos (.inl h)]
theorem chT_get {room:Nat} (hr:8≤room) (o:D):∀(n:Nat) (lg:Int) (s:ByteArray),s.size≤n→∀(i:Nat) (h:i<(chT room o lg s).length),
  (chT room o lg s)[i].lg=lg+i∧(chT room o lg s)[i].own=o∧0<(chT room o lg s)[i].tx.size∧(chT room o lg s)[i].tx.size≤room∧(i+1<(chT room o lg s).length→(chT room o lg s)[i].tx.size=room):=by
 intro n
 induction n with
 | zero=>
  intro lg s hs i h
  rw[chT_nil (by omega)] at h
  simp at h
 | succ n ih=>
  intro lg s hs i h
  by_cases h0:s.size=0
  ·rw[chT_nil h0] at h;simp at h
  ·have hrest:(s.extract (min room s.size) s.size).size≤n:=by rw[ByteArray.size_extract];omega
   have e:chT room o lg s=⟨lg,o,s.extract 0 (min room s.size)⟩::chT room o (lg+1) (s.extract (min room s.size) s.size):=by
    rw[chT,dif_neg (by omega)]
   simp only[e] at h ⊢
   cases i with
   | zero=>
    simp only[List.getElem_cons_zero,List.length_cons]
    refine⟨by omega,trivial,?_,?_,fun h2=>?_⟩
    ·rw[ByteArray.size_extract];omega
    ·rw[ByteArray.size_extract];omega
    ·rw[ByteArray.size_extract]
     have:¬(s.extract (min room s.size) s.size).size=0:=by
      intro h3
      rw[chT_nil h3] at h2
      simp at h2
     rw[ByteArray.size_extract] at this
     omega
   | succ i=>
    simp only[List.getElem_cons_succ,List.length_cons] at h ⊢
    have:=ih (lg+1) _ hrest i (by simpa using h)
    refine⟨by rw[this.1];omega,this.2.1,this.2.2.1,this.2.2.2.1,fun h2=>this.2.2.2.2 (by omega)⟩
structure Row (room:Nat) (l:List It):Prop where
 pos:∀x∈l,0<x.tx.size∧x.tx.size≤room
 next:∀(i:Nat) (h:i+1<l.length),l[i].lg<l[i+1].lg∧(l[i+1].lg=l[i].lg+1→l[i].tx.size=room)
theorem Row.nil {room:Nat}:Row room []:=⟨by simp,by simp⟩
theorem Row.append {room:Nat} {a b:List It} {m:Int} (ha:Row room a) (hb:Row room b) (h1:∀x∈a,x.lg+1<m) (h2:∀x∈b,m≤x.lg):Row room (a++b):=by
 refine⟨fun x hx=>?_,fun i h=>?_⟩
 ·rcases List.mem_append.1 hx with hx | hx
  ·exact ha.pos x hx
  ·exact hb.pos x hx
 ·rw[List.length_append] at h
  by_cases c1:i+1<a.length
  ·rw[List.getElem_append_left c1,List.getElem_append_left (by omega)]
   exact ha.next i c1
  ·by_cases c2:i<a.length
   ·rw[List.getElem_append_left c2,List.getElem_append_right (by omega)]
    have g1:=h1 _ (List.getElem_mem c2)
    have g2:=h2 _ (List.getElem_mem (l:=b) (n:=i+1-a.length) (by omega))
    exact⟨by omega,by omega⟩
   ·rw[List.getElem_append_right (by omega),List.getElem_append_right (by omega)]
    have:=hb.next (i-a.length) (by omega)
    have e:i+1-a.length=i-a.length+1:=by omega
    simp only[e]
    exact this
theorem row_ch {room:Nat} (hr:8≤room) (o:D) (lg:Int) (s:ByteArray):Row room (chT room o lg s):=by
 have hg:=chT_get hr o s.size lg s (Nat.le_refl _)
 refine⟨fun x hx=>?_,fun i h=>?_⟩
 ·obtain⟨i,hi,rfl⟩:=List.getElem_of_mem hx
  have:=hg i hi
  exact⟨this.2.2.1,this.2.2.2.1⟩
 ·have a:=hg i (by omega)
  have b:=hg (i+1) h
  exact⟨by rw[a.1,b.1];omega,fun _=>a.2.2.2.2 h⟩
theorem ch_range {room:Nat} (hr:8≤room) (o:D) (lg:Int) (s:ByteArray):∀x∈chT room o lg s,lg≤x.lg∧x.lg<lg+(chT room o lg s).length∧x.own=o:=by
 intro x hx
 obtain⟨i,hi,rfl⟩:=List.getElem_of_mem hx
 have:=chT_get hr o s.size lg s (Nat.le_refl _) i hi
 exact⟨by rw[this.1];omega,by rw[this.1];omega,this.2.1⟩
def filesT (room:Nat) (l:List Fl):List It:=(l.map fun f=>chT room (di f.id) (4096*f.id) f.data).flatten
def itemsT (room:Nat) (s:St) (hd lg:ByteArray):List It:=chT room (di 0) 0 hd++chT room (di 0) 1000 lg++filesT room s.files
theorem filesOf_eq (room:Nat):∀l:List Fl,filesOf room l=(filesT room l).map It.enc
 | []=>rfl
 | f::l=>by
  have:=filesOf_eq room l
  simp only[filesOf,filesT,List.map_cons,List.flatten_cons,List.map_append] at this ⊢
  rw[this,chunksOf_eq _ _ _ _ _ (Nat.le_refl _)]
theorem itemsOf_eq (room:Nat) (s:St) (hd lg:ByteArray):itemsOf room s hd lg=(itemsT room s hd lg).map It.enc:=by
 unfold itemsOf itemsT
 rw[chunksOf_eq _ _ _ _ _ (Nat.le_refl _),chunksOf_eq _ _ _ _ _ (Nat.le_refl _),filesOf_eq,List.map_append,List.map_append]
theorem filesT_row {room:Nat} (hr:8≤room):∀(l:List Fl),(l.Pairwise fun a b=>a.id<b.id)→(filesT room l).length≤400→Row room (filesT room l)∧∀x∈filesT room l,∀m:Int,(∀f∈l,m≤f.id)→4096*m≤x.lg
 | [],_,_=>⟨Row.nil,by simp[filesT]⟩
 | f::l,h,hl=>by
  obtain⟨h1,h2⟩:=List.pairwise_cons.1 h
  have e:filesT room (f::l)=chT room (di f.id) (4096*f.id) f.data++filesT room l:=rfl
  rw[e,List.length_append] at hl
  obtain⟨i1,i2⟩:=filesT_row hr l h2 (by omega)
  have hc:=ch_range hr (di f.id) (4096*f.id) f.data
  rw[e]
  refine⟨(row_ch hr _ _ _).append (m:=4096*(f.id+1)) i1 (fun x hx=>?_) (fun x hx=>i2 x hx _ fun g hg=>?_),fun x hx m hm=>?_⟩
  ·have:=hc x hx;omega
  ·have:=h1 g hg;omega
  ·rcases List.mem_append.1 hx with hx | hx
   ·have:=hc x hx
    have:=hm f (by simp)
    omega
   ·exact i2 x hx m fun g hg=>hm g (by simp[hg])
theorem items_row {room:Nat} (hr:8≤room) {s:St} (hs:StOk s) {hd lg:ByteArray} (hl:(itemsT room s hd lg).length≤400):Row room (itemsT room s hd lg):=by
 unfold itemsT at hl ⊢
 rw[List.length_append,List.length_append] at hl
 have c1:=ch_range hr (di 0) 0 hd
 have c2:=ch_range hr (di 0) 1000 lg
 obtain⟨f1,f2⟩:=filesT_row hr s.files hs.rise (by omega)
 refine((row_ch hr _ _ _).append (m:=1000) (row_ch hr _ _ _) (fun x hx=>?_) (fun x hx=>(c2 x hx).1)).append (m:=4096) f1 (fun x hx=>?_) (fun x hx=>?_)
 ·have:=c1 x hx;omega
 ·rcases List.mem_append.1 hx with hx | hx
  ·have:=c1 x hx;omega
  ·have:=c2 x hx;omega
 ·have:=f2 x hx 1 fun f hf=>(hs.files f hf).id0
  omega
theorem run_facts:∀(l:List Mo) (r:Run),StOk r.st→(∀o∈l,MoOk o)→(∀e∈r.evs,evB e=true∧EvSm e) →
  StOk (runFrom shaL l r).st∧(∀e∈(runFrom shaL l r).evs,evB e=true∧EvSm e)∧(runFrom shaL l r).evs.length≤r.evs.length+12*l.length
 | [],r,h,_,he=>⟨h,he,by simp[runFrom]⟩
 | o::l,r,h,hl,he=>by
  have ho:=hl o (by simp)
  have h1:=do_events shaL_len h ho
  have h2:=do_evs_len (sum:=shaL) (o:=o) h
  have:=run_facts l ⟨(doM shaL r.st o).st,true,r.ans++[(doM shaL r.st o).an],r.nnE||!(doM shaL r.st o).evs.isEmpty,r.evs++(doM shaL r.st o).evs⟩ (do_ok (sum:=shaL) h ho) (fun x hx=>hl x (by simp[hx])) (fun e hee=>by
   rcases List.mem_append.1 hee with hee | hee
   ·exact he e hee
   ·exact⟨(h1 e hee).1,(h1 e hee).2.1,(h1 e hee).2.2⟩)
  simp only[List.length_append,List.length_cons] at this ⊢
  rw[runFrom]
  refine⟨this.1,this.2.1,?_⟩
  have:=this.2.2
  omega
end Go.AM.SY
namespace Go.AM.SY
open Go Go.AM
def itEq (x y:It):Bool:=x.lg==y.lg&&(x.own.i==y.own.i&&x.tx==y.tx)
theorem eqv_item {x y:It} (hx:x.own=di x.own.i) (hy:y.own=di y.own.i):D.eqv ty eqDepth x.enc y.enc (.struct [3,3,9])=some (itEq x y):=by
 obtain⟨a,o,t⟩:=x
 obtain⟨b,p,u⟩:=y
 simp only at hx hy
 have hk:List.map ty [3,3,9]=[.int .i64,.int .i64,.str]:=rfl
 have e1:∀x y:Int,D.eqv ty 15 (.int .i64 x) (.int .i64 y) (.int .i64)=some (x==y):=fun _ _=>rfl
 have e2:∀x y:ByteArray,D.eqv ty 15 (.str x) (.str y) .str=some (x==y):=fun _ _=>rfl
 rw[hx,hy]
 have e0:D.eqv ty eqDepth (It.enc ⟨a,di o.i,t⟩) (It.enc ⟨b,di p.i,u⟩) (.struct [3,3,9])=eqvs (D.eqv ty 15) [di a,di o.i,dS t] [di b,di p.i,dS u] (List.map ty [3,3,9]):=rfl
 rw[e0,hk]
 simp only[eqvs,e1,e2,itEq,i_int]
 cases a==b
 ·rfl
 cases o.i==p.i
 ·rfl
 cases t==u<;>rfl
theorem find_item (b:Bool) (A:List It) (lg:Int) (hl:A.length≤1000):F73.s FUEL (dl b (A.map It.enc)) lg=some (di (findI (fun x:It=>decide (x.lg=lg)) A)):=by
 unfold F73.s
 simp only[elems_slice,List.length_map]
 refine goS_rule (fun t:F73.S74_2=>∃k:Nat,t=⟨dl b (A.map It.enc),nI A.length,(k:Int),lg⟩∧k≤A.length∧∀i (h:i<A.length),i<k→decide (A[i].lg=lg)=false) (fun t=>A.length-t.i3.toNat) (fun o=>o=some (di (findI (fun x:It=>decide (x.lg=lg)) A))) ?_ _ _ ⟨0,rfl,by omega,by omega⟩ (by simp[FUEL];omega)
 rintro _ rec ⟨k,rfl,hk,hs⟩ hrec
 simp only[F73.st74_2]
 by_cases h1:k<A.length
 ·refine ct (by simp;omega) (ct (by simp;omega) ?_)
  simp only[elems_slice,Int.toNat_natCast,ix_map h1]
  have hlg:(A[k].enc.at 0).i=A[k].lg:=rfl
  rw[hlg]
  by_cases h2:A[k].lg=lg
  ·refine ct (by simpa using h2) ?_
   rw[findI,findIdx_some_of h1 hs (by simpa using h2)]
  ·refine cf (by simpa using h2) (hrec _ ⟨k+1,?_,by omega,?_⟩ ?_)
   ·rw[ad64 (by omega) (by omega)];rfl
   ·intro i hi hik
    by_cases hik':i=k
    ·subst hik';simpa using h2
    ·exact hs i hi (by omega)
   ·rw[ad64 (by omega) (by omega)];simp;omega
 ·refine cf (by simp;omega) ?_
  rw[findI,findIdx_none_of (fun i hi=>hs i hi (by omega))]
def hasL (l:List It) (lg:Int):Bool:=l.any fun x=>decide (x.lg=lg)
def sameIn (A:List It) (x:It):Bool:=match A.find? fun a=>decide (a.lg=x.lg) with | some a=>itEq a x | none=>false
def dropE (x:It):D:=da [da [di x.lg,di 0,dS (bs [])],db true]
def putE (x:It):D:=da [x.enc,db false]
def drops (A B:List It):List It:=A.filter fun x=>!hasL B x.lg
def puts (A B:List It):List It:=B.filter fun x=>!sameIn A x
theorem drops_succ {A B:List It} {k:Nat} (h:k<A.length):drops (A.take (k+1)) B=if hasL B A[k].lg=true then drops (A.take k) B else drops (A.take k) B++[A[k]]:=by
 unfold drops
 rw[List.take_succ_eq_append_getElem h,List.filter_append]
 cases hh:hasL B A[k].lg<;>simp[hh]
theorem puts_succ {A B:List It} {k:Nat} (h:k<B.length):puts A (B.take (k+1))=if sameIn A B[k]=true then puts A (B.take k) else puts A (B.take k)++[B[k]]:=by
 unfold puts
 rw[List.take_succ_eq_append_getElem h,List.filter_append]
 cases hh:sameIn A B[k]<;>simp[hh]
theorem findI_neg {l:List It} {lg:Int}:findI (fun x:It=>decide (x.lg=lg)) l<0↔hasL l lg=false:=by
 have:=findI_nonneg (p:=fun x:It=>decide (x.lg=lg)) (l:=l)
 unfold hasL
 constructor
 ·intro h
  cases hh:l.any fun x=>decide (x.lg=lg) with
  | false=>rfl
  | true=>have:=this.2 hh;omega
 ·intro h
  rcases Int.lt_or_le (findI (fun x:It=>decide (x.lg=lg)) l) 0 with h1 | h1
  ·exact h1
  ·have:=this.1 h1;rw[this] at h;cases h
theorem find_place {A:List It} {lg:Int} (h:0≤findI (fun x:It=>decide (x.lg=lg)) A):∃(i:Nat) (hi:i<A.length),findI (fun x:It=>decide (x.lg=lg)) A=i∧A.find? (fun a=>decide (a.lg=lg))=some A[i]:=by
 unfold findI at h ⊢
 cases hf:A.findIdx? (fun x:It=>decide (x.lg=lg)) with
 | none=>rw[hf] at h;simp at h
 | some i=>
  obtain⟨hi,h1,h2⟩:=List.findIdx?_eq_some_iff_getElem.1 hf
  refine⟨i,hi,rfl,?_⟩
  rw[List.find?_eq_some_iff_getElem]
  exact⟨h1,i,hi,rfl,fun j hj=>by simpa using h2 j hj⟩
theorem sameIn_neg {A:List It} {x:It} (h:findI (fun y:It=>decide (y.lg=x.lg)) A<0):sameIn A x=false:=by
 have h1:=findI_neg.1 h
 unfold sameIn
 have:A.find? (fun a=>decide (a.lg=x.lg))=none:=by
  rw[List.find?_eq_none]
  intro y hy
  have:=List.any_eq_false.1 h1 y hy
  simpa using this
 rw[this]
theorem diff_spec (b1 b2:Bool) (A B:List It) (hA:A.length≤400) (hB:B.length≤400) (oA:∀x∈A,x.own=di x.own.i) (oB:∀x∈B,x.own=di x.own.i) :
  ∃b,F27.s FUEL (dl b1 (A.map It.enc)) (dl b2 (B.map It.enc))=some (.slice b ((drops A B).map dropE++(puts A B).map putE)):=by
 suffices h:∀Post:Option D→Prop,(∀b,Post (some (.slice b ((drops A B).map dropE++(puts A B).map putE))))→Post (F27.s FUEL (dl b1 (A.map It.enc)) (dl b2 (B.map It.enc))) from h (fun o=>∃b,o=some (.slice b ((drops A B).map dropE++(puts A B).map putE))) fun b=>⟨b,rfl⟩
 intro Post hPost
 unfold F27.s
 simp only[elems_slice,List.length_map]
 have hdl:∀k,(drops (A.take k) B).length≤400:=fun k=>Nat.le_trans (List.length_filter_le _ _) (by simp;omega)
 have hpl:∀k,(puts A (B.take k)).length≤400:=fun k=>Nat.le_trans (List.length_filter_le _ _) (by simp;omega)
 have hrow:∀{l:List D} {n:Nat} (L:List D) (x:D),(n=0∧l=L∨n=0∧l=L)→L.length≤100000→True:=fun _ _ _ _=>trivial
 refine goS_rule (fun t:F27.S4=>∃(k:Nat) (b:Bool),t=⟨dl b1 (A.map It.enc),dl b2 (B.map It.enc),0,(drops (A.take k) B).length,dl b1 (A.map It.enc),nI A.length,(k:Int),b,(drops (A.take k) B).map dropE⟩∧k≤A.length) (fun t=>A.length-t.i7.toNat) Post ?_ _ _ ⟨0,false,rfl,by omega⟩ (by simp[FUEL];omega)
 rintro _ rec ⟨k,b,rfl,hk⟩ hrec
 simp only[F27.st4]
 by_cases h1:k<A.length
 ·have hadd:ad .i64 (k:Int) 1=((k+1:Nat):Int):=by rw[ad64 (by omega) (by omega)];rfl
  have hk4:=hdl k
  refine pct (by simp;omega) (pct (by simp;omega) ?_)
  simp only[elems_slice,Int.toNat_natCast,ix_map h1]
  have hlg:(A[k].enc.at 0).i=A[k].lg:=rfl
  rw[hlg]
  refine pbd (find_item b2 B A[k].lg (by omega)) ?_
  by_cases h2:findI (fun x:It=>decide (x.lg=A[k].lg)) B<0
  ·refine pct (by simpa using h2) (pct (by simp;omega) ?_)
   have hh:=findI_neg.1 h2
   have hs:=drops_succ (B:=B) h1
   rw[if_neg (by rw[hh];simp)] at hs
   refine hrec _ ⟨k+1,b||true,?_,by omega⟩ (by rw[hadd];simp;omega)
   rw[F27.S4.mk.injEq]
   refine⟨rfl,rfl,rfl,by rw[hs];simp,rfl,rfl,hadd,rfl,?_⟩
   rw[hs,List.map_append,List.drop_zero,List.take_of_length_le (by simp),ap]
   rfl
  ·refine pcf (by simpa using h2) ?_
   have hh:hasL B A[k].lg=true:=by
    cases hb:hasL B A[k].lg with
    | true=>rfl
    | false=>exact absurd (findI_neg.2 hb) h2
   have hs:=drops_succ (B:=B) h1
   rw[if_pos hh] at hs
   refine hrec _ ⟨k+1,b,?_,by omega⟩ (by rw[hadd];simp;omega)
   rw[hadd,hs]
 ·refine pcf (by simp;omega) ?_
  have hke:k=A.length:=by omega
  subst hke
  rw[List.take_length]
  obtain⟨DR,hDR⟩:∃DR,DR=(drops A B).map dropE:=⟨_,rfl⟩
  have hDl:(drops A B).length=DR.length:=by rw[hDR];simp
  have hD4:DR.length≤400:=by rw[←hDl];have:=hdl A.length;rwa [List.take_length] at this
  rw[hDl,←hDR]
  rw[←hDR] at hPost
  refine goS_rule (fun t:F27.S10=>∃(k:Nat) (b:Bool),t=⟨dl b1 (A.map It.enc),0,DR.length+(puts A (B.take k)).length,dl b2 (B.map It.enc),nI B.length,(k:Int),b,DR++(puts A (B.take k)).map putE⟩∧k≤B.length) (fun t=>B.length-t.i16.toNat) Post ?_ _ _ ⟨0,b,by simp[puts],by omega⟩ (by simp[FUEL];omega)
  rintro _ rec ⟨k,b,rfl,hk⟩ hrec
  simp only[F27.st10]
  by_cases h1:k<B.length
  ·have hadd:ad .i64 (k:Int) 1=((k+1:Nat):Int):=by rw[ad64 (by omega) (by omega)];rfl
   have hk4:=hpl k
   refine pct (by simp;omega) (pct (by simp;omega) ?_)
   simp only[elems_slice,Int.toNat_natCast,ix_map h1,List.length_map]
   have hlg:(B[k].enc.at 0).i=B[k].lg:=rfl
   rw[hlg]
   have hnew:sameIn A B[k]=false→∀b',Post (rec ⟨dl b1 (A.map It.enc),0,(DR.length+(puts A (B.take k)).length)+1,dl b2 (B.map It.enc),nI B.length,(ad .i64 (k:Int) 1),b',(ap (((DR++(puts A (B.take k)).map putE).drop 0).take (DR.length+(puts A (B.take k)).length)) [(da [B[k].enc,(db false)])])⟩):=by
    intro hh b'
    have hs:=puts_succ (A:=A) h1
    rw[if_neg (by rw[hh];simp)] at hs
    refine hrec _ ⟨k+1,b',?_,by omega⟩ (by rw[hadd];simp;omega)
    rw[F27.S10.mk.injEq]
    refine⟨rfl,rfl,by rw[hs];simp;omega,rfl,rfl,hadd,rfl,?_⟩
    rw[hs,List.map_append,List.drop_zero,List.take_of_length_le (by simp),ap,List.append_assoc]
    rfl
   refine pbd (find_item b1 A B[k].lg (by omega)) ?_
   by_cases h2:findI (fun x:It=>decide (x.lg=B[k].lg)) A<0
   ·exact pct (by simpa using h2) (pct (by simp;omega) (hnew (sameIn_neg h2) _))
   ·refine pcf (by simpa using h2) ?_
    obtain⟨i,hi,e1,e2⟩:=find_place (by omega:0≤findI (fun x:It=>decide (x.lg=B[k].lg)) A)
    rw[e1]
    refine pct (by simp;omega) ?_
    have hsm:sameIn A B[k]=itEq A[i] B[k]:=by unfold sameIn;rw[e2]
    simp only[i_int,Int.toNat_natCast,ix_map hi]
    rw[eqv_item (oA _ (List.getElem_mem hi)) (oB _ (List.getElem_mem h1))]
    refine pbd rfl ?_
    cases hq:itEq A[i] B[k] with
    | false=>exact pct (by simp) (pct (by simp;omega) (hnew (by rw[hsm,hq]) _))
    | true=>
     refine pcf (by simp) ?_
     have hs:=puts_succ (A:=A) h1
     rw[if_pos (by rw[hsm,hq])] at hs
     refine hrec _ ⟨k+1,b,?_,by omega⟩ (by rw[hadd];simp;omega)
     rw[hadd,hs]
  ·refine pcf (by simp;omega) ?_
   have hke:k=B.length:=by omega
   subst hke
   rw[List.take_length]
   refine pct (by simp) (hPost b)
end Go.AM.SY
namespace Go.AM.SY
open Go Go.AM
theorem items_mem {room:Nat} {s:St} {hd lg:ByteArray} {x:It}:x∈itemsT room s hd lg↔x∈chT room (di 0) 0 hd∨x∈chT room (di 0) 1000 lg∨∃f∈s.files,x∈chT room (di f.id) (4096*f.id) f.data:=by
 unfold itemsT filesT
 simp only[List.mem_append,List.mem_flatten,List.mem_map]
 constructor
 ·rintro((h | h) | ⟨l,⟨f,hf,rfl⟩,h⟩)
  ·exact .inl h
  ·exact .inr (.inl h)
  ·exact .inr (.inr ⟨f,hf,h⟩)
 ·rintro(h | h | ⟨f,hf,h⟩)
  ·exact .inl (.inl h)
  ·exact .inl (.inr h)
  ·exact .inr ⟨_,⟨f,hf,rfl⟩,h⟩
theorem items_own {room:Nat} (hr:8≤room) {s:St} {hd lg:ByteArray}:∀x∈itemsT room s hd lg,x.own=di x.own.i:=by
 intro x hx
 rcases items_mem.1 hx with h | h | ⟨f,_,h⟩
 ·rw[(ch_range hr _ _ _ x h).2.2];rfl
 ·rw[(ch_range hr _ _ _ x h).2.2];rfl
 ·rw[(ch_range hr _ _ _ x h).2.2];rfl
theorem Row.rise {room:Nat} {l:List It} (h:Row room l):∀(d i:Nat) (hj:i+d+1<l.length),l[i].lg<l[i+d+1].lg
 | 0,i,hj=>(h.next i hj).1
 | d+1,i,hj=>by
  have h1:=Row.rise h d i (by omega)
  have h2:=(h.next (i+d+1) (by omega)).1
  have e:i+(d+1)+1=i+d+1+1:=by omega
  simp only[e]
  omega
theorem Row.one {room:Nat} {l:List It} (h:Row room l) {x y:It} (hx:x∈l) (hy:y∈l) (he:x.lg=y.lg):x=y:=by
 obtain⟨i,hi,rfl⟩:=List.getElem_of_mem hx
 obtain⟨j,hj,rfl⟩:=List.getElem_of_mem hy
 rcases Nat.lt_trichotomy i j with h1 | h1 | h1
 ·have:=h.rise (j-i-1) i (by omega)
  have e:i+(j-i-1)+1=j:=by omega
  simp only[e] at this
  omega
 ·subst h1;rfl
 ·have:=h.rise (i-j-1) j (by omega)
  have e:j+(i-j-1)+1=i:=by omega
  simp only[e] at this
  omega
theorem itEq_self (x:It):itEq x x=true:=by simp[itEq]
theorem sameIn_is {l:List It} {x:It} (h:sameIn l x=true):∃a∈l,a.lg=x.lg∧a.own.i=x.own.i∧a.tx=x.tx:=by
 unfold sameIn at h
 split at h
 ·rename_i a hf
  simp only[itEq,Bool.and_eq_true,beq_iff_eq] at h
  exact⟨a,List.mem_of_find?_eq_some hf,h.1,h.2.1,ba_eq.1 h.2.2⟩
 ·cases h
section
variable {room:Nat} (hr:8≤room) {s t:St} (hs:StOk s) {i:Nat} (hi:i<s.files.length) {f':Fl} (ht:t.files=s.files.set i f') (hid:f'.id=s.files[i].id) (hda:s.files[i].data.size<f'.data.size)
 {hd hd' lg lg':ByteArray} (hh:hd.size≤hd'.size) (hg:lg.size≤lg'.size)
include hr hi ht hid hda hh hg
omit hid hda hh hg in
end
end Go.AM.SY
namespace Go.AM.SY
open Go Go.AM
theorem works_ok:F15.s FUEL=some (.bool true):=by kernel_rfl
end Go.AM.SY
namespace Go.AM.SY
open Go Go.AM
theorem few_specM (nn:Bool) (l:List Mo):F25.s FUEL (dl nn (l.map Mo.enc))=some (db (fewM l)):=by
 unfold F25.s
 refine goS_rule (fun t:F25.S2=>∃k:Nat,t=⟨dl nn (l.map Mo.enc),(k:Int)⟩∧k≤31∧∀i (h:i<l.length),i<k→oneM l[i]=true) (fun t=>31-t.i2.toNat) (fun o=>o=some (db (fewM l))) ?_ _ _ ⟨0,rfl,by omega,by omega⟩ (by simp[FUEL])
 rintro _ rec ⟨k,rfl,hk,hs⟩ hrec
 have hall:(∀i (h:i<l.length),i≤30→oneM l[i]=true)→(l.take 31).all oneM=true:=by
  intro h
  simp only[List.all_eq_true]
  intro e he
  obtain⟨i,hi,rfl⟩:=List.getElem_of_mem he
  simp at hi ⊢
  exact h i (by omega) (by omega)
 have hno:∀(h1:k<l.length),k≤30→oneM l[k]=false→fewM l=false:=by
  intro h1 h2 h3
  have:(l.take 31).all oneM=false:=by
   rw[List.all_eq_false]
   refine⟨l[k],?_,by simp[h3]⟩
   rw[List.mem_take_iff_getElem]
   exact⟨k,by omega,rfl⟩
  simp[fewM,this]
 simp only[F25.st2]
 by_cases h1:k<l.length
 ·refine ct (by simp;omega) ?_
  by_cases h2:k≤30
  ·refine ct (by simp;omega) (ct (by simp;omega) ?_)
   simp only[elems_slice,Int.toNat_natCast,ix_map h1]
   have ht:((l[k].enc.at 2).s)=l[k].text:=rfl
   have hn:((l[k].enc.at 1).s)=l[k].name:=rfl
   rw[ht,hn]
   by_cases h3:l[k].text.size≤700
   ·refine cf (by simp;omega) (ct (by simp;omega) ?_)
    by_cases h4:l[k].name.size≤200
    ·refine cf (by simp;omega) ?_
     have hadd:ad .i64 (k:Int) 1=((k+1:Nat):Int):=by rw[ad64 (by omega) (by omega)];rfl
     rw[hadd]
     refine hrec _ ⟨k+1,rfl,by omega,?_⟩ (by simp;omega)
     intro i hi hik
     by_cases hik':i=k
     ·subst hik';simp[oneM,h3,h4]
     ·exact hs i hi (by omega)
    ·refine ct (by simp;omega) ?_
     rw[hno h1 h2 (by simp[oneM,h4])]
   ·refine ct (by simp;omega) ?_
    rw[hno h1 h2 (by simp[oneM,h3])]
  ·refine cf (by simp;omega) ?_
   have:¬l.length≤30:=by omega
   simp[fewM,this,leI]
   try omega
 ·refine cf (by simp;omega) ?_
  have:=hall (fun i hi hi2=>hs i hi (by omega))
  simp[fewM,this,leI]
  omega
end Go.AM.SY
namespace Go.AM.SY
open Go Go.AM
def dropT (l:List It) (g:Int):List It:=l.filter fun x=>decide (x.lg≠g)
def setF:List It→It→List It
 | [],x=>[x]
 | a::l,x=>if x.lg≤a.lg then x::dropT (a::l) x.lg else a::setF l x
def Rise (l:List It):Prop:=l.Pairwise fun a b=>a.lg<b.lg
theorem drop_mem {l:List It} {g:Int} {y:It}:y∈dropT l g↔y∈l∧y.lg≠g:=by simp[dropT]
theorem drop_rise {l:List It} (g:Int) (h:Rise l):Rise (dropT l g):=List.Pairwise.filter _ h
theorem set_mem {x y:It}:∀{l:List It},Rise l→(y∈setF l x↔y=x∨y∈l∧y.lg≠x.lg)
 | [],_=>by simp[setF]
 | a::l,h=>by
  obtain⟨h1,h2⟩:=List.pairwise_cons.1 h
  unfold setF
  split
  ·rw[List.mem_cons,drop_mem]
  ·rename_i hx
   rw[List.mem_cons,set_mem h2,List.mem_cons]
   constructor
   ·rintro(rfl | rfl | h3)
    ·exact .inr ⟨.inl rfl,by omega⟩
    ·exact .inl rfl
    ·exact .inr ⟨.inr h3.1,h3.2⟩
   ·rintro(rfl | ⟨rfl | h3,h4⟩)
    ·exact .inr (.inl rfl)
    ·exact .inl rfl
    ·exact .inr (.inr ⟨h3,h4⟩)
theorem set_rise {x:It}:∀{l:List It},Rise l→Rise (setF l x)
 | [],_=>by simp[setF,Rise]
 | a::l,h=>by
  obtain⟨h1,h2⟩:=List.pairwise_cons.1 h
  unfold setF
  split
  ·rename_i hx
   refine List.pairwise_cons.2 ⟨fun y hy=>?_,drop_rise _ h⟩
   obtain⟨h3,h4⟩:=drop_mem.1 hy
   rcases List.mem_cons.1 h3 with rfl | h3
   ·omega
   ·have:=h1 y h3;omega
  ·refine List.pairwise_cons.2 ⟨fun y hy=>?_,set_rise h2⟩
   rcases(set_mem h2).1 hy with rfl | h3
   ·omega
   ·exact h1 y h3.1
theorem rise_ext:∀{a b:List It},Rise a→Rise b→(∀y,y∈a↔y∈b)→a=b
 | [],b,_,_,h=>by
  cases b with
  | nil=>rfl
  | cons y b=>exact absurd ((h y).2 (by simp)) (by simp)
 | x::a,[],_,_,h=>absurd ((h x).1 (by simp)) (by simp)
 | x::a,y::b,ha,hb,h=>by
  obtain⟨a1,a2⟩:=List.pairwise_cons.1 ha
  obtain⟨b1,b2⟩:=List.pairwise_cons.1 hb
  have e:x=y:=by
   rcases List.mem_cons.1 ((h x).1 (by simp)) with e | e
   ·exact e
   ·rcases List.mem_cons.1 ((h y).2 (by simp)) with e2 | e2
    ·exact e2.symm
    ·have:=b1 x e;have:=a1 y e2;omega
  subst e
  congr 1
  refine rise_ext a2 b2 fun z=>⟨fun hz=>?_,fun hz=>?_⟩
  ·rcases List.mem_cons.1 ((h z).1 (by simp[hz])) with e | e
   ·subst e;have:=a1 z hz;omega
   ·exact e
  ·rcases List.mem_cons.1 ((h z).2 (by simp[hz])) with e | e
   ·subst e;have:=b1 z hz;omega
   ·exact e
def chT2 (l:List It) (c:Bool×It):List It:=if c.1=true then dropT l c.2.lg else setF l c.2
theorem fold_drop:∀(ds:List It) {l:List It} {y:It},(y∈(ds.map fun x=>(true,x)).foldl chT2 l↔y∈l∧∀x∈ds,y.lg≠x.lg)
 | [],l,y=>by simp
 | x::ds,l,y=>by
  have e:((x::ds).map fun x=>(true,x)).foldl chT2 l=(ds.map fun x=>(true,x)).foldl chT2 (dropT l x.lg):=rfl
  rw[e,fold_drop ds,drop_mem]
  simp only[List.mem_cons,forall_eq_or_imp]
  constructor
  ·rintro⟨⟨h1,h2⟩,h3⟩;exact⟨h1,h2,h3⟩
  ·rintro⟨h1,h2,h3⟩;exact⟨⟨h1,h2⟩,h3⟩
theorem fold_rise:∀(cs:List (Bool×It)) {l:List It},Rise l→Rise (cs.foldl chT2 l)
 | [],_,h=>h
 | c::cs,l,h=>fold_rise cs (l:=chT2 l c) (by unfold chT2;split;exact drop_rise _ h;exact set_rise h)
theorem fold_put:∀(ps:List It) {l:List It} {y:It},Rise l→Rise ps→(y∈(ps.map fun x=>(false,x)).foldl chT2 l↔(y∈l∧∀x∈ps,y.lg≠x.lg)∨y∈ps)
 | [],l,y,_,_=>by simp
 | x::ps,l,y,hl,hp=>by
  obtain⟨h1,h2⟩:=List.pairwise_cons.1 hp
  have e:((x::ps).map fun x=>(false,x)).foldl chT2 l=(ps.map fun x=>(false,x)).foldl chT2 (setF l x):=rfl
  rw[e,fold_put ps (set_rise hl) h2,set_mem hl]
  simp only[List.mem_cons,forall_eq_or_imp]
  constructor
  ·rintro(⟨rfl | ⟨h3,h4⟩,h5⟩ | h3)
   ·exact .inr (.inl rfl)
   ·exact .inl ⟨h3,h4,h5⟩
   ·exact .inr (.inr h3)
  ·rintro(⟨h3,h4,h5⟩ | rfl | h3)
   ·exact .inl ⟨.inr ⟨h3,h4⟩,h5⟩
   ·refine .inl ⟨.inl rfl,fun z hz=>?_⟩
    have:=h1 z hz;omega
   ·exact .inr h3
theorem Row.pw {room:Nat} {l:List It} (h:Row room l):Rise l:=by
 refine List.pairwise_iff_getElem.2 fun i j hi hj hij=>?_
 have:=h.rise (j-i-1) i (by omega)
 have e:i+(j-i-1)+1=j:=by omega
 simp only[e] at this
 exact this
def chgs (A B:List It):List (Bool×It):=(drops A B).map (fun x=>(true,x))++(puts A B).map fun x=>(false,x)
theorem turns_law {room:Nat} {A B:List It} (ha:Row room A) (hb:Row room B) (oA:∀x∈A,x.own=di x.own.i) (oB:∀x∈B,x.own=di x.own.i):(chgs A B).foldl chT2 A=B:=by
 refine rise_ext (fold_rise _ ha.pw) hb.pw fun y=>?_
 unfold chgs
 rw[List.foldl_append,fold_put (puts A B) (fold_rise _ ha.pw) (List.Pairwise.filter _ hb.pw),fold_drop]
 have hdm:∀{x},x∈drops A B↔x∈A∧hasL B x.lg=false:=by intro x;simp[drops]
 have hpm:∀{x},x∈puts A B↔x∈B∧sameIn A x=false:=by intro x;simp[puts]
 have hsame:∀{z},z∈B→sameIn A z=true→z∈A:=by
  intro z hz h
  obtain⟨a,a1,a2,a3,a4⟩:=sameIn_is h
  have:a=z:=by
   have o1:=oA a a1
   have o2:=oB z hz
   cases a;cases z
   simp only at a2 a3 a4 o1 o2
   rw[a3] at o1
   rw[←o2] at o1
   subst a2;subst a4;subst o1
   rfl
  rw[←this];exact a1
 constructor
 ·rintro(⟨⟨h1,h2⟩,h3⟩ | h1)
  ·have hh:hasL B y.lg=true:=by
    cases h4:hasL B y.lg with
    | true=>rfl
    | false=>exact absurd rfl (h2 y (hdm.2 ⟨h1,h4⟩))
   obtain⟨z,z1,z2⟩:∃z∈B,z.lg=y.lg:=by simpa[hasL] using hh
   have hs:sameIn A z=true:=by
    cases h4:sameIn A z with
    | true=>rfl
    | false=>exact absurd z2.symm (h3 z (hpm.2 ⟨z1,h4⟩))
   have:=ha.one h1 (hsame z1 hs) z2.symm
   rw[this];exact z1
  ·exact(hpm.1 h1).1
 ·intro hy
  cases h4:sameIn A y with
  | false=>exact .inr (hpm.2 ⟨hy,h4⟩)
  | true=>
   refine .inl ⟨⟨hsame hy h4,fun x hx e=>?_⟩,fun x hx e=>?_⟩
   ·have:=(hdm.1 hx).2
    have h5:hasL B x.lg=true:=by
     simp only[hasL,List.any_eq_true,decide_eq_true_eq]
     exact⟨y,hy,e⟩
    rw[this] at h5;cases h5
   ·obtain⟨x1,x2⟩:=hpm.1 hx
    have:=hb.one hy x1 e
    rw[←this,h4] at x2;cases x2
theorem ofi_spec (b:Bool) (L:List It) (hl:L.length≤100000):∃b',F21.s FUEL (dl b (L.map It.enc))=some (dl b' (L.map It.enc)):=by
 suffices h:∀Post:Option D→Prop,(∀b,Post (some (dl b (L.map It.enc))))→Post (F21.s FUEL (dl b (L.map It.enc))) from h (fun o=>∃b,o=some (dl b (L.map It.enc))) fun b=>⟨b,rfl⟩
 intro Post hPost
 unfold F21.s
 refine goS_rule (fun t:F21.S3=>∃(k:Nat) (b1:Bool),t=⟨dl b (L.map It.enc),0,k,(k:Int),b1,(L.take k).map It.enc⟩∧k≤L.length) (fun t=>L.length-t.i4.toNat) Post ?_ _ _ ⟨0,false,rfl,by omega⟩ (by simp[FUEL];omega)
 rintro _ rec ⟨k,b1,rfl,hk⟩ hrec
 simp only[F21.st3]
 by_cases h1:k<L.length
 ·have hadd:ad .i64 (k:Int) 1=((k+1:Nat):Int):=by rw[ad64 (by omega) (by omega)];rfl
  refine pct (by simp;omega) (pct (by simp;omega) (pct (by simp;omega) (pct (by simp;omega) (pct (by simp;omega) ?_))))
  simp only[elems_slice,Int.toNat_natCast,ix_map h1]
  refine hrec _ ⟨k+1,b1||true,?_,by omega⟩ (by rw[hadd];simp;omega)
  rw[F21.S3.mk.injEq]
  refine⟨rfl,rfl,rfl,hadd,rfl,?_⟩
  rw[List.take_succ_eq_append_getElem h1,List.map_append,List.drop_zero,List.take_of_length_le (by simp;omega),ap]
  rfl
 ·refine pcf (by simp;omega) ?_
  have hke:k=L.length:=by omega
  subst hke
  rw[List.take_length]
  exact pct (by simp) (hPost _)
theorem dropT_succ {l:List It} {g:Int} {k:Nat} (h:k<l.length):dropT (l.take (k+1)) g=if l[k].lg=g then dropT (l.take k) g else dropT (l.take k) g++[l[k]]:=by
 unfold dropT
 rw[List.take_succ_eq_append_getElem h,List.filter_append]
 by_cases hh:l[k].lg=g<;>simp[hh]
theorem dropT_le (l:List It) (g:Int):(dropT l g).length≤l.length:=List.length_filter_le _ _
theorem drop_spec (b:Bool) (L:List It) (g:Int) (hl:L.length≤100000):∃b',F28.s FUEL (dl b (L.map It.enc)) g=some (dl b' ((dropT L g).map It.enc)):=by
 suffices h:∀Post:Option D→Prop,(∀b,Post (some (dl b ((dropT L g).map It.enc))))→Post (F28.s FUEL (dl b (L.map It.enc)) g) from h (fun o=>∃b,o=some (dl b ((dropT L g).map It.enc))) fun b=>⟨b,rfl⟩
 intro Post hPost
 unfold F28.s
 refine goS_rule (fun t:F28.S3=>∃(k:Nat) (b1:Bool),t=⟨dl b (L.map It.enc),g,0,(dropT (L.take k) g).length,(k:Int),b1,(dropT (L.take k) g).map It.enc⟩∧k≤L.length) (fun t=>L.length-t.i5.toNat) Post ?_ _ _ ⟨0,false,rfl,by omega⟩ (by simp[FUEL];omega)
 rintro _ rec ⟨k,b1,rfl,hk⟩ hrec
 simp only[F28.st3]
 by_cases h1:k<L.length
 ·have hadd:ad .i64 (k:Int) 1=((k+1:Nat):Int):=by rw[ad64 (by omega) (by omega)];rfl
  have hle:=dropT_le (L.take k) g
  rw[List.length_take] at hle
  refine pct (by simp;omega) (pct (by simp;omega) ?_)
  simp only[elems_slice,Int.toNat_natCast,ix_map h1]
  have hlg:(L[k].enc.at 0).i=L[k].lg:=rfl
  rw[hlg]
  have hs:=dropT_succ (g:=g) h1
  by_cases h2:L[k].lg=g
  ·refine pcf (by simpa using h2) ?_
   rw[if_pos h2] at hs
   refine hrec _ ⟨k+1,b1,?_,by omega⟩ (by rw[hadd];simp;omega)
   rw[hs,hadd]
  ·refine pct (by simpa using h2) (pct (by simp;omega) (pct (by simp;omega) ?_))
   rw[if_neg h2] at hs
   refine hrec _ ⟨k+1,b1||true,?_,by omega⟩ (by rw[hadd];simp;omega)
   rw[F28.S3.mk.injEq]
   refine⟨rfl,rfl,rfl,by rw[hs];simp,hadd,rfl,?_⟩
   rw[hs,List.map_append,List.drop_zero,List.take_of_length_le (by simp),ap]
   rfl
 ·refine pcf (by simp;omega) ?_
  have hke:k=L.length:=by omega
  subst hke
  rw[List.take_length]
  exact pct (by simp) (hPost _)
def rest (p:Bool) (l:List It) (x:It):List It:=if p=true then dropT l x.lg else setF l x
theorem rest_cons (p:Bool) (a:It) (l:List It) (x:It):rest p (a::l) x=(if p=false∧x.lg≤a.lg then [x] else [])++(if a.lg=x.lg then [] else [a])++rest (p||decide (x.lg≤a.lg)) l x:=by
 cases p with
 | true=>by_cases h:a.lg=x.lg<;>simp[rest,dropT,h]
 | false=>
  by_cases h:x.lg≤a.lg
  ·by_cases h2:a.lg=x.lg<;>simp[rest,setF,dropT,h,h2]
  ·have:¬a.lg=x.lg:=by omega
   simp[rest,setF,h,this]
theorem setF_le:∀(l:List It) (x:It),(setF l x).length≤l.length+1
 | [],_=>by simp[setF]
 | a::l,x=>by
  unfold setF
  split
  ·have:=dropT_le (a::l) x.lg
   simp only[List.length_cons] at this ⊢;omega
  ·have:=setF_le l x
   simp only[List.length_cons];omega
theorem set_spec (b:Bool) (L:List It) (x:It) (hl:L.length≤100000):∃b',F29.s FUEL (dl b (L.map It.enc)) x.enc=some (dl b' ((setF L x).map It.enc)):=by
 suffices h:∀Post:Option D→Prop,(∀b,Post (some (dl b ((setF L x).map It.enc))))→Post (F29.s FUEL (dl b (L.map It.enc)) x.enc) from h (fun o=>∃b,o=some (dl b ((setF L x).map It.enc))) fun b=>⟨b,rfl⟩
 intro Post hPost
 unfold F29.s
 have hxl:(x.enc.at 0).i=x.lg:=rfl
 refine goS_rule (fun t:F29.S4=>∃(k:Nat) (p b1:Bool) (O:List It),t=⟨dl b (L.map It.enc),0,O.length,p,(k:Int),x.enc,b1,O.map It.enc⟩∧k≤L.length∧O++rest p (L.drop k) x=setF L x) (fun t=>L.length-t.i5.toNat) Post ?_ _ _ ⟨0,false,false,[],rfl,by omega,by simp[rest]⟩ (by simp[FUEL];omega)
 rintro _ rec ⟨k,p,b1,O,rfl,hk,hO⟩ hrec
 simp only[F29.st4]
 have hOl:O.length≤100001:=by
  have:=congrArg List.length hO
  rw[List.length_append] at this
  have:=setF_le L x
  omega
 have hap:∀(O:List It) (y:It),ap (((O.map It.enc).drop 0).take O.length) [y.enc]=(O++[y]).map It.enc:=by
  intro O y
  rw[List.map_append,List.drop_zero,List.take_of_length_le (by simp),ap];rfl
 by_cases h1:k<L.length
 ·have hadd:ad .i64 (k:Int) 1=((k+1:Nat):Int):=by rw[ad64 (by omega) (by omega)];rfl
  have hd:L.drop k=L[k]::L.drop (k+1):=by rw[List.drop_eq_getElem_cons h1]
  rw[hd,rest_cons] at hO
  have hlg:(L[k].enc.at 0).i=L[k].lg:=rfl
  have hin:inb (k:Int) (dl b (L.map It.enc)).elems.length=true:=by simp;omega
  have hix:ix (dl b (L.map It.enc)).elems (k:Int).toNat=L[k].enc:=ix_map h1
  have step:∀(p' b2:Bool) (O':List It),O'++rest p' (L.drop (k+1)) x=setF L x→Post (rec ⟨dl b (L.map It.enc),0,O'.length,p',ad .i64 (k:Int) 1,x.enc,b2,O'.map It.enc⟩):=by
   intro p' b2 O' h
   exact hrec _ ⟨k+1,p',b2,O',by rw[hadd],by omega,h⟩ (by rw[hadd];simp;omega)
  refine pct (by simp;omega) ?_
  rw[hin,hix,hlg,hxl]
  have nopre:(p=true∨¬x.lg≤L[k].lg)→∀p',p'=(p||decide (x.lg≤L[k].lg))→Post (cond true (cond (neI L[k].lg x.lg) (cond true (cond (mx (O.length+1)) (rec ⟨dl b (L.map It.enc),0,(O.length+1),p',(ad .i64 (k:Int) 1),x.enc,(b1||true),(ap (((O.map It.enc).drop 0).take O.length) [L[k].enc])⟩) none) none) (rec ⟨dl b (L.map It.enc),0,O.length,p',(ad .i64 (k:Int) 1),x.enc,b1,O.map It.enc⟩)) none):=by
   intro hp p' hp'
   rw[if_neg (by rintro⟨h2,h3⟩;rcases hp with h4 | h4;rw[h4] at h2;cases h2;exact h4 h3),List.nil_append] at hO
   refine pct rfl ?_
   by_cases h2:L[k].lg=x.lg
   ·refine pcf (by simpa using h2) (step p' b1 O ?_)
    rw[if_pos h2,List.nil_append] at hO
    rw[hp'];exact hO
   ·refine pct (by simpa using h2) (pct rfl (pct (by simp;omega) ?_))
    have:=step p' (b1||true) (O++[L[k]]) (by
     rw[if_neg h2,←List.append_assoc] at hO
     rw[hp'];exact hO)
    rw[hap]
    simpa using this
  cases p with
  | true=>exact pcf rfl (nopre (.inl rfl) true rfl)
  | false=>
   refine pct rfl (pct rfl ?_)
   by_cases h3:x.lg≤L[k].lg
   ·refine pct (by simpa using h3) (pct (by simp;omega) (pct rfl ?_))
    rw[if_pos ⟨rfl,h3⟩,List.append_assoc] at hO
    have hp':(false||decide (x.lg≤L[k].lg))=true:=by simpa using h3
    rw[hp'] at hO
    rw[hap]
    by_cases h2:L[k].lg=x.lg
    ·refine pcf (by simpa using h2) ?_
     rw[if_pos h2,List.nil_append,←List.append_assoc] at hO
     have:=step true (b1||true) (O++[x]) hO
     simpa using this
    ·refine pct (by simpa using h2) (pct rfl (pct (by simp;omega) ?_))
     rw[if_neg h2,←List.append_assoc,←List.append_assoc] at hO
     have:=step true (b1||true||true) (O++[x]++[L[k]]) hO
     have hap2:=hap (O++[x]) L[k]
     rw[show (O++[x]).length=O.length+1 by simp] at hap2
     rw[hap2]
     simpa using this
   ·exact pcf (by simp;omega) (nopre (.inr h3) false (by simp;omega))
 ·refine pcf (by simp;omega) ?_
  have hke:k=L.length:=by omega
  subst hke
  rw[List.drop_length] at hO
  cases p with
  | true=>
   have hO':O=setF L x:=by simpa[rest,dropT] using hO
   refine pcf rfl (pct (by simp) ?_)
   rw[hO'];exact hPost _
  | false=>
   have hO':O++[x]=setF L x:=by simpa[rest,setF] using hO
   refine pct rfl (pct (by simp;omega) ?_)
   rw[hap,hO']
   refine pct ?_ (hPost _)
   have:=congrArg List.length hO'
   simp at this ⊢
   omega
end Go.AM.SY
namespace Go.AM.SY
open Go Go.AM
theorem row_same (b1 b2:Bool) (L:List It) (hl:L.length≤100000) (ho:∀x∈L,x.own=di x.own.i):F20.s FUEL (dl b1 (L.map It.enc)) (dl b2 (L.map It.enc))=some (db true):=by
 unfold F20.s
 refine cf (by simp) ?_
 refine goS_rule (fun t:F20.S4=>∃k:Nat,t=⟨dl b1 (L.map It.enc),dl b2 (L.map It.enc),(k:Int)⟩∧k≤L.length) (fun t=>L.length-t.i3.toNat) (fun o=>o=some (db true)) ?_ _ _ ⟨0,rfl,by omega⟩ (by simp[FUEL];omega)
 rintro _ rec ⟨k,rfl,hk⟩ hrec
 simp only[F20.st4]
 by_cases h1:k<L.length
 ·have hadd:ad .i64 (k:Int) 1=((k+1:Nat):Int):=by rw[ad64 (by omega) (by omega)];rfl
  refine ct (by simp;omega) (ct (by simp;omega) (ct (by simp;omega) ?_))
  simp only[elems_slice,Int.toNat_natCast,ix_map h1]
  have hm:=ho _ (List.getElem_mem h1)
  rw[eqv_item hm hm,itEq_self]
  refine bdS rfl (cf rfl (hrec _ ⟨k+1,by rw[hadd],by omega⟩ ?_))
  rw[hadd];simp;omega
 ·exact cf (by simp;omega) rfl
theorem turns_run (n1 n2:Bool) (l1 l2:List Mo) (hl1:∀o∈l1,o.ok) (hl2:∀o∈l2,o.ok) (room:Int):F5.s FUEL (dl n1 (l1.map Mo.enc)) (dl n2 (l2.map Mo.enc)) room=some (db true):=by
 unfold F5.s
 refine bdS works_ok (cf rfl (bdS (few_specM n1 l1) ?_))
 cases hf1:fewM l1 with
 | false=>exact cf rfl rfl
 | true=>
 refine ct rfl (bdS (few_specM n2 l2) ?_)
 cases hf2:fewM l2 with
 | false=>exact ct rfl rfl
 | true=>
 refine cf rfl ?_
 obtain⟨hlen1,hmo1⟩:=few_okM hf1 hl1
 obtain⟨hst1,hev1,hel1⟩:=run_facts l1 (run0 emptyS) emptyS_ok hmo1 (by simp[run0])
 refine bdS (run_spec emptyS n1 l1 emptyS_ok hmo1 (by omega)) ?_
 obtain⟨R,hR⟩:∃R,R=runM shaL emptyS l1:=⟨_,rfl⟩
 rw[←hR]
 have hst1':StOk R.st:=by rw[hR];exact hst1
 have hev1':∀e∈R.evs,EvSm e:=by rw[hR];exact fun e he=>(hev1 e he).2
 have hel1':R.evs.length≤1000:=by rw[hR];have e:(run0 emptyS).evs.length=0:=rfl;show (runFrom shaL l1 (run0 emptyS)).evs.length≤_;omega
 have e0:R.enc.at 0=R.st.enc:=rfl
 have e2:R.enc.at 2=dl R.nnE (R.evs.map Ev.enc):=rfl
 rw[e0,e2]
 generalize R.st=s at *
 generalize R.evs=v at *
 generalize R.nnE=nv at *
 obtain⟨hlen2,hmo2⟩:=few_okM hf2 hl2
 obtain⟨hst2,hev2,hel2⟩:=run_facts l2 (run0 s) hst1' hmo2 (by simp[run0])
 refine bdS (run_spec s n2 l2 hst1' hmo2 (by omega)) ?_
 obtain⟨T,hT⟩:∃T,T=runM shaL s l2:=⟨_,rfl⟩
 rw[←hT]
 have hst2':StOk T.st:=by rw[hT];exact hst2
 have hev2':∀e∈T.evs,EvSm e:=by rw[hT];exact fun e he=>(hev2 e he).2
 have hel2':T.evs.length≤1000:=by rw[hT];have e:(run0 s).evs.length=0:=rfl;show (runFrom shaL l2 (run0 s)).evs.length≤_;omega
 have g0:T.enc.at 0=T.st.enc:=rfl
 have g2:T.enc.at 2=dl T.nnE (T.evs.map Ev.enc):=rfl
 rw[g0,g2]
 generalize T.st=t at *
 generalize T.evs=w at *
 generalize T.nnE=nw at *
 have hevs:∀e∈v++w,EvSm e:=by
  intro e he
  rcases List.mem_append.1 he with he | he
  ·exact hev1' e he
  ·exact hev2' e he
 simp only[elems_slice,List.length_map]
 refine ct (by simp;omega) (ct (by simp;omega) ?_)
 have erow:((ap ((((v.map Ev.enc).drop 0).take v.length)) (w.map Ev.enc)).drop 0).take (v.length+w.length)=(v++w).map Ev.enc:=by
  have x1:(v.map Ev.enc).take v.length=v.map Ev.enc:=List.take_of_length_le (by rw[List.length_map];exact Nat.le_refl _)
  rw[List.drop_zero,List.drop_zero,x1,ap,←List.map_append,List.take_of_length_le (by simp)]
 rw[erow]
 generalize (!(v.map Ev.enc).isEmpty||!(w.map Ev.enc).isEmpty)=na
 refine put_items hst1' nv v hev1' room (Post:=fun o=>bd o _=some (db true)) ?_ ?_
 ·refine bdS rfl ?_
  refine put_items hst2' na (v++w) hevs room (Post:=fun o=>bd o _=some (db true)) (bdS rfl (ct rfl rfl)) ?_
  intro r _ _ _ _ b hd lg _ _ _
  exact bdS rfl (ct rfl rfl)
 intro r hr hr8 _ _ b hd lg _ _ h4
 refine bdS rfl ?_
 refine put_items hst2' na (v++w) hevs room (Post:=fun o=>bd o _=some (db true)) (bdS rfl (cf rfl (ct rfl rfl))) ?_
 intro r' hr' _ _ _ b' hd' lg' _ _ h4'
 have:r'=r:=by omega
 subst this
 rw[itemsOf_eq] at h4 h4' ⊢
 rw[itemsOf_eq]
 rw[List.length_map] at h4 h4'
 refine bdS rfl (cf rfl (cf rfl ?_))
 have u1:∀(b:Bool) (L:List It),(D.tup [dl b (L.map It.enc),db true]).at 0=dl b (L.map It.enc):=fun _ _=>rfl
 rw[u1,u1]
 have ha:=items_row hr8 hst1' h4
 have hb:=items_row hr8 hst2' h4'
 have oA:=items_own (hd:=hd) (lg:=lg) hr8 (s:=s)
 have oB:=items_own (hd:=hd') (lg:=lg') hr8 (s:=t)
 generalize itemsT r' s hd lg=A at *
 generalize itemsT r' t hd' lg'=B at *
 obtain⟨b3,hdiff⟩:=diff_spec b b' A B h4 h4' oA oB
 refine bdS hdiff ?_
 have hdp:((drops A B).map dropE++(puts A B).map putE).length≤800:=by
  have h1:(drops A B).length≤A.length:=List.length_filter_le _ _
  have h2:(puts A B).length≤B.length:=List.length_filter_le _ _
  simp;omega
 let ce:Bool×It→D:=fun c=>if c.1=true then dropE c.2 else putE c.2
 have hce:(drops A B).map dropE++(puts A B).map putE=(chgs A B).map ce:=by
  unfold chgs
  rw[List.map_append,List.map_map,List.map_map]
  rfl
 rw[hce] at hdp ⊢
 rw[List.length_map] at hdp
 have hturn:=turns_law ha hb oA oB
 generalize chgs A B=C at *
 obtain⟨b4,hof⟩:=ofi_spec b A (by omega)
 refine bdS hof ?_
 simp only[elems_slice,List.length_map]
 generalize ap (List.take v.length (List.drop 0 (List.map Ev.enc v))) (List.map Ev.enc w)=Q
 have hlenT:∀(C:List (Bool×It)) (A:List It),(C.foldl chT2 A).length≤A.length+C.length:=by
  intro C
  induction C with
  | nil=>intro A;simp
  | cons c C ih=>
   intro A
   have h1:=ih (chT2 A c)
   have h2:(chT2 A c).length≤A.length+1:=by
    unfold chT2
    split
    ·have:=dropT_le A c.2.lg;omega
    ·exact setF_le _ _
   simp only[List.foldl_cons,List.length_cons]
   omega
 have hdl:∀(x:Bool) (l:List D),dl (D.nn (dl x l)) l=dl x l:=fun _ _=>rfl
 refine goS_rule (fun t':F5.S19=>∃(k:Nat) (b5:Bool) (N:List It),t'=⟨db true,dl b' (B.map It.enc),0,C.length,0,N.length,(k:Int),s.enc,t.enc,na,Q,D.nn (.slice b3 (C.map ce)),C.map ce,b5,N.map It.enc⟩∧k≤C.length∧N=(C.take k).foldl chT2 A) (fun t=>C.length-t.i16.toNat) (fun o=>o=some (db true)) ?_ _ _ ⟨0,b4,A,rfl,by omega,rfl⟩ (by simp[FUEL];omega)
 rintro _ rec ⟨k,b5,N,rfl,hk,hN⟩ hrec
 have hNl:N.length≤2000:=by
  have:=hlenT (C.take k) A
  rw[List.length_take] at this
  rw[hN];omega
 have hcur:((N.map It.enc).drop 0).take N.length=N.map It.enc:=by rw[List.drop_zero,List.take_of_length_le (by simp)]
 simp only[F5.st19]
 rw[hcur]
 by_cases h5:k<C.length
 ·have hadd:ad .i64 (k:Int) 1=((k+1:Nat):Int):=by rw[ad64 (by omega) (by omega)];rfl
  simp only[Nat.zero_add,Int.toNat_natCast,ix_map h5]
  refine ct (by simp;omega) (ct (by simp;omega) (ct (by simp;omega) ?_))
  have hnext:∀(b6:Bool) (N':List It),N'=chT2 N C[k]→rec ⟨db true,dl b' (B.map It.enc),0,C.length,0,N'.length,(ad .i64 (k:Int) 1),s.enc,t.enc,na,Q,D.nn (.slice b3 (C.map ce)),C.map ce,b6,N'.map It.enc⟩=some (db true):=by
   intro b6 N' h
   refine hrec _ ⟨k+1,b6,N',by rw[hadd],by omega,?_⟩ (by rw[hadd];simp;omega)
   rw[List.take_succ_eq_append_getElem h5,List.foldl_append,←hN,h];rfl
  cases hc:C[k] with
  | mk p x=>
  rw[hc] at hnext
  cases p with
  | true=>
   have h6:((ce (true,x)).at 1).b=true:=rfl
   have h7:(((ce (true,x)).at 0).at 0).i=x.lg:=rfl
   rw[h6,h7]
   refine ct rfl ?_
   obtain⟨b6,hdr⟩:=drop_spec b5 N x.lg (by omega)
   refine bdS hdr ?_
   have:=hnext b6 (dropT N x.lg) rfl
   simpa using this
  | false=>
   have h6:((ce (false,x)).at 1).b=false:=rfl
   have h7:da [(((ce (false,x)).at 0).at 0),(((ce (false,x)).at 0).at 1),(((ce (false,x)).at 0).at 2)]=x.enc:=rfl
   rw[h6,h7]
   refine cf rfl ?_
   obtain⟨b6,hdr⟩:=set_spec b5 N x (by omega)
   refine bdS hdr ?_
   have:=hnext b6 (setF N x) rfl
   simpa using this
 ·refine cf (by simp;omega) (ct rfl ?_)
  have hke:k=C.length:=by omega
  subst hke
  rw[List.take_length,hturn] at hN
  obtain⟨b6,hof2⟩:=ofi_spec b' B (by omega)
  refine bdS hof2 ?_
  have hcur2:(((dl b6 (B.map It.enc)).elems.drop 0).take (dl b6 (B.map It.enc)).elems.length)=B.map It.enc:=by
   simp only[elems_slice,List.drop_zero,List.take_length]
  rw[hcur2,hN]
  exact bdS (row_same _ _ B (by omega) oB) rfl
theorem pure5:∀ds,D.hass ty ds [(.slice 74),(.slice 74),(.int .i64)]→D.wfs ds→F5.c.run ds=some (.bool true):=by
 intro ds h hw
 obtain⟨d0,_,rfl,h0,h⟩:=hassC h
 obtain⟨d1,_,rfl,h1,h⟩:=hassC h
 obtain⟨d2,_,rfl,h2,h⟩:=hassC h
 obtain rfl:=hass0 h
 simp only[D.wfs] at hw
 obtain⟨n1,l1,rfl,hl1⟩:=mos_of h0 hw.1
 obtain⟨n2,l2,rfl,hl2⟩:=mos_of h1 hw.2.1
 obtain⟨n,rfl⟩:=has_int h2
 exact turns_run n1 n2 l1 l2 hl1 hl2 n
end Go.AM.SY
