/- Part 13 of the proof: the abstract machine, what the functions compute, and plain laws over that. -/
import Derived.Test.YtmbnifmpbafcjaaGreatDoorIp12
import Derived.KernelRfl
set_option linter.all false
set_option linter.unusedSimpArgs false
set_option linter.unusedVariables false
set_option linter.unusedSectionVars false
set_option linter.all false
namespace Go.AM.SY
open Go Go.AM
def logL (l:List Ev):List UInt8:=l.flatMap fun e=>textL (evBytes e)
theorem headL_le {s:St} (hs:StOk s) (n:Int) (hn:n≤1000):(headL s n).length≤80000:=by
 have hl1:=hs.len
 have l1:=hs.last1
 have f1:=hs.floor1
 have hl2:=flat_le fileL 6000 s.files fun f hf=>fileL_le (hs.files f hf) l1
 have hmul:s.files.length*6000≤12*6000:=Nat.mul_le_mul_right _ hl1
 have z1:=numI_len (n:=s.last) (by omega)
 have z2:=numI_len (n:=s.floor) (by omega)
 have z3:=numI_len (n:=(s.files.length:Int)) (by omega)
 have z4:=numI_len (n:=n) (by omega)
 unfold headL
 simp only[List.length_append]
 omega
theorem logL_le (l:List Ev) (h:∀e∈l,EvW e):(logL l).length≤l.length*4208:=
 flat_le _ 4208 l fun e he=>by
  have h1:=evBytes_leW (h e he)
  have h2:=text_len (s:=evBytes e) (by unfold big;omega)
  omega
theorem logL_take (l:List Ev) (k:Nat):(logL (l.take k)).length≤(logL l).length:=flat_take _ l k
theorem logL_succ {l:List Ev} {k:Nat} (h:k<l.length):logL (l.take (k+1))=logL (l.take k)++textL (evBytes l[k]):=flat_succ _ h
section
variable {s:St} (hs:StOk s) (nn:Bool) (evs:List Ev) (hev:∀e∈evs,EvW e) (hel:evs.length≤400) (room:Nat) (hr0:8≤room) (hr1:room≤224)
 {Post:Option D→Prop} (h0:400<(itemsOf room s (bs (headL s (nI evs.length))) (bs (logL evs))).length→Post (some (.tup [dl false [],db false])))
 (h1:∀(b:Bool),(itemsOf room s (bs (headL s (nI evs.length))) (bs (logL evs))).length≤400→Post (some (.tup [dl b (itemsOf room s (bs (headL s (nI evs.length))) (bs (logL evs))),db true])))
include hs hev hel hr0 hr1 h0 h1
theorem tailL_A (b24:Bool) (l25:List D) (b26:Bool) (a c:Nat) (b33:Bool) (l34:List D) (hf:BRow a c l34 (logL evs)) (hb:b33=true→0<c):Post (putK (.e1 (dl nn (evs.map Ev.enc)) (room:Int) b24 l25 b26 s.enc a c b33 l34)):=by
 have hl1:=hs.len
 have hcl:=hf.len
 have hl2:=flat_le fileL 6000 s.files fun f hf=>fileL_le (hs.files f hf) hs.last1
 have x1:=head_ok s hs (nI evs.length) (by simp) (by simp;omega)
 have hhl:=headL_le hs (nI evs.length) (by simp;omega)
 obtain⟨hd,hhdE⟩:∃hd,hd=bs (headL s (nI evs.length)):=⟨_,rfl⟩
 rw[←hhdE] at x1 h0 h1
 have hhd:hd.size≤80000:=by rw[hhdE,bsz];omega
 have hls:=logL_le evs hev
 have hmul2:evs.length*4209≤400*4209:=Nat.mul_le_mul_right _ hel
 show Post (bd (F60.s FUEL s.enc (nI (evs.map Ev.enc).length)) _)
 rw[List.length_map]
 refine pbd x1 ?_
 refine chunk_loop (st:=F17.st110_1 FUEL) (mk:=fun i s' n m b l=>⟨i,s.enc,a,c,b33,l34,dS s',(room:Int),0,0,n,m,b,l⟩) (ex:=fun i s' n m b l=>.e0 s.enc a c b33 l34 (dS s') (room:Int) 0 0 n m b l) (o:=di 0) (lg:=0) (fun _ _ _ _ _ _ _ _=>rfl) hr0 (by omega) _ hd.size FUEL 0 hd 0 0 false [] [] (by omega) (by simp only[FUEL];omega) (by omega) (by omega) ⟨rfl,rfl⟩ (fun i1 s1 n1 m1 b1 l1 hw1=>?_)
 have hk1:=chunksOf_len room hr0 _ hd (di 0) (0+((0:Nat):Int)) (Nat.le_refl _)
 have hm1:=hw1.len
 simp only[List.nil_append] at hm1
 refine pct (builder_ok hb (by omega)) (pct (by simp) (pct (by simp) ?_))
 obtain⟨lg,hlg⟩:∃lg,lg=ofBytes ((l34.drop a).take c):=⟨_,rfl⟩
 have hlgE:lg=bs (logL evs):=by rw[hlg,hf.of]
 have hlgs:lg.size=(logL evs).length:=by rw[hlgE,bsz]
 rw[←hlg]
 rw[←hlgE] at h0 h1
 refine chunk_loop (st:=F17.st110_1_9_17 FUEL) (mk:=fun i s' n m b l=>⟨i,s.enc,a,c,dS s1,(room:Int),0,0,n1,m1,n1,m1,s',(room:Int),0,1000,n,m,b,l⟩) (ex:=fun i s' n m b l=>.e0 s.enc a c (dS s1) (room:Int) 0 0 n1 m1 n1 m1 s' (room:Int) 0 1000 n m b l) (o:=di 0) (lg:=1000) (fun _ _ _ _ _ _ _ _=>rfl) hr0 (by omega) _ ((lg.size+7) / 8) FUEL 0 lg n1 m1 b1 l1 _ (by omega) (by simp only[FUEL];omega) (by omega) (by omega) hw1 (fun i2 s2 n2 m2 b2 l2 hw2=>?_)
 have hk2:=chunksOf_len room hr0 _ lg (di 0) (1000+((0:Nat):Int)) (Nat.le_refl _)
 have hm2:=hw2.len
 simp only[List.nil_append,List.length_append] at hm2
 have e0:s.enc.at 0=dl s.nn (s.files.map Fl.enc):=rfl
 show Post (goS (F17.st16 FUEL) FUEL ⟨(room:Int),b24,l25,b26,(s.enc.at 0),(nI (s.enc.at 0).elems.length),0,s.enc,a,c,dS s1,(room:Int),0,0,n1,m1,n2,m2,s2,(room:Int),0,1000,n2,m2,b2,l2⟩ _)
 rw[e0]
 simp only[elems_slice,List.length_map]
 obtain⟨L2,hL2⟩:∃L2,L2=[]++chunksOf room (di 0) (0+((0:Nat):Int)) hd++chunksOf room (di 0) (1000+((0:Nat):Int)) lg:=⟨_,rfl⟩
 rw[←hL2] at hw2
 have hfl:∀k,(filesOf room (s.files.take k)).length≤8000:=by
  intro k
  have:∀(l:List Fl),(∀f∈l,FlOk f s.last)→(filesOf room l).length≤l.length*600:=by
   intro l
   induction l with
   | nil=>intro _;simp[filesOf]
   | cons f l ih=>
    intro h
    have i1:=ih fun x hx=>h x (by simp[hx])
    have i2:=chunksOf_len room hr0 _ f.data (di f.id) (4096*f.id) (Nat.le_refl _)
    have i3:=(h f (by simp)).data
    simp only[filesOf,List.map_cons,List.flatten_cons,List.length_append,List.length_cons,Nat.add_mul] at i1 ⊢
    omega
  have h1:=this (s.files.take k) fun f hf=>hs.files f (List.mem_of_mem_take hf)
  have h2:(s.files.take k).length≤12:=by simp;omega
  have h3:(s.files.take k).length*600≤12*600:=Nat.mul_le_mul_right _ h2
  omega
 refine goS_rule (fun t:F17.S16=>∃(k n m:Nat) (b:Bool) (l:List D),t=⟨(room:Int),b24,l25,b26,dl s.nn (s.files.map Fl.enc),nI s.files.length,(k:Int),s.enc,a,c,dS s1,(room:Int),0,0,n1,m1,n,m,s2,(room:Int),0,1000,n2,m2,b,l⟩∧k≤s.files.length∧RowIs n m l (L2++filesOf room (s.files.take k))) (fun t=>s.files.length-t.i93.toNat) Post ?_ _ _ ⟨0,n2,m2,b2,l2,rfl,by omega,by simpa[filesOf] using hw2⟩ (by simp[FUEL];omega)
 rintro _ rec ⟨k,n,m,b,l,rfl,hk,hw⟩ hrec
 simp only[F17.st16]
 have hmL:=hw.len
 have hfk:=hfl k
 rw[List.length_append,hL2] at hmL
 simp only[List.nil_append,List.length_append] at hmL
 by_cases hkl:k<s.files.length
 ·have hadd:ad .i64 (k:Int) 1=((k+1:Nat):Int):=by rw[ad64 (by omega) (by omega)];rfl
  have hfo:=hs.files _ (List.getElem_mem hkl)
  obtain⟨f,hfe⟩:∃f,f=s.files[k]:=⟨_,rfl⟩
  have hlast:=hs.last1
  have hi0:=hfo.id0
  have hi1:=hfo.id1
  have hda:=hfo.data
  refine pct (by simp;omega) (pct (by simp;omega) ?_)
  simp only[elems_slice,Int.toNat_natCast,ix_map hkl]
  rw[←hfe] at hi0 hi1 hda ⊢
  rw[show f.enc.at 2=dS f.data from rfl,show f.enc.at 0=di f.id from rfl,i_int,ml64 (by omega) (by omega)]
  refine chunk_loop (st:=F17.st110_1_10_25 FUEL) (mk:=fun i s' n m b l=>⟨i,s.enc,a,c,dS s1,(room:Int),0,0,n1,m1,n,m,s2,(room:Int),0,1000,n2,m2,f.enc,dS s',(room:Int),di f.id,4096*f.id,b,l⟩) (ex:=fun i s' n m b l=>.e0 s.enc a c (dS s1) (room:Int) 0 0 n1 m1 n m s2 (room:Int) 0 1000 n2 m2 f.enc (dS s') (room:Int) (di f.id) (4096*f.id) b l) (o:=di f.id) (lg:=4096*f.id) (fun _ _ _ _ _ _ _ _=>rfl) hr0 (by omega) _ f.data.size FUEL 0 f.data n m b l _ (by omega) (by simp only[FUEL];omega) (by omega) (by omega) hw (fun i3 s3 n3 m3 b3 l3 hw3=>?_)
  refine hrec _ ⟨k+1,n3,m3,b3,l3,?_,by omega,?_⟩ ?_
  ·rw[hadd]
  ·rw[filesOf_succ hkl,←hfe,←List.append_assoc]
   have e4:4096*f.id+((0:Nat):Int)=4096*f.id:=by omega
   rw[e4] at hw3
   exact hw3
  ·rw[hadd];simp;omega
 ·refine pcf (by simp;omega) ?_
  have hke:k=s.files.length:=by omega
  subst hke
  rw[List.take_length,hL2] at hw
  have e5:(0:Int)+((0:Nat):Int)=0:=rfl
  have e6:(1000:Int)+((0:Nat):Int)=1000:=rfl
  rw[e5,e6,List.nil_append] at hw
  by_cases h4:400<m
  ·exact pct (by simp;omega) (h0 (by have:=hw.len;unfold itemsOf;omega))
  ·refine pcf (by simp;omega) ?_
   rw[hw.eq]
   exact h1 b (by have:=hw.len;unfold itemsOf;omega)
theorem tailL_B (b24:Bool) (l25:List D) (b26:Bool) (a c:Nat) (b33:Bool) (l34:List D) (hf:BRow a c l34 (logL evs)) (hb:b33=true→0<c):Post (putK (.e3 (dl nn (evs.map Ev.enc)) (room:Int) b24 l25 b26 s.enc a c b33 l34)):=by
 have hl1:=hs.len
 have hcl:=hf.len
 have hl2:=flat_le fileL 6000 s.files fun f hf=>fileL_le (hs.files f hf) hs.last1
 have x1:=head_ok s hs (nI evs.length) (by simp) (by simp;omega)
 have hhl:=headL_le hs (nI evs.length) (by simp;omega)
 obtain⟨hd,hhdE⟩:∃hd,hd=bs (headL s (nI evs.length)):=⟨_,rfl⟩
 rw[←hhdE] at x1 h0 h1
 have hhd:hd.size≤80000:=by rw[hhdE,bsz];omega
 have hls:=logL_le evs hev
 have hmul2:evs.length*4209≤400*4209:=Nat.mul_le_mul_right _ hel
 show Post (bd (F60.s FUEL s.enc (nI (evs.map Ev.enc).length)) _)
 rw[List.length_map]
 refine pbd x1 ?_
 refine chunk_loop (st:=F17.st110_1_8_9 FUEL) (mk:=fun i s' n m b l=>⟨i,s.enc,a,c,b33,l34,dS s',(room:Int),0,0,n,m,b,l⟩) (ex:=fun i s' n m b l=>.e0 s.enc a c b33 l34 (dS s') (room:Int) 0 0 n m b l) (o:=di 0) (lg:=0) (fun _ _ _ _ _ _ _ _=>rfl) hr0 (by omega) _ hd.size FUEL 0 hd 0 0 false [] [] (by omega) (by simp only[FUEL];omega) (by omega) (by omega) ⟨rfl,rfl⟩ (fun i1 s1 n1 m1 b1 l1 hw1=>?_)
 have hk1:=chunksOf_len room hr0 _ hd (di 0) (0+((0:Nat):Int)) (Nat.le_refl _)
 have hm1:=hw1.len
 simp only[List.nil_append] at hm1
 refine pct (builder_ok hb (by omega)) (pct (by simp) (pct (by simp) ?_))
 obtain⟨lg,hlg⟩:∃lg,lg=ofBytes ((l34.drop a).take c):=⟨_,rfl⟩
 have hlgE:lg=bs (logL evs):=by rw[hlg,hf.of]
 have hlgs:lg.size=(logL evs).length:=by rw[hlgE,bsz]
 rw[←hlg]
 rw[←hlgE] at h0 h1
 refine chunk_loop (st:=F17.st110_1_9_17_w2 FUEL) (mk:=fun i s' n m b l=>⟨i,s.enc,a,c,dS s1,(room:Int),0,0,n1,m1,n1,m1,s',(room:Int),0,1000,n,m,b,l⟩) (ex:=fun i s' n m b l=>.e0 s.enc a c (dS s1) (room:Int) 0 0 n1 m1 n1 m1 s' (room:Int) 0 1000 n m b l) (o:=di 0) (lg:=1000) (fun _ _ _ _ _ _ _ _=>rfl) hr0 (by omega) _ ((lg.size+7) / 8) FUEL 0 lg n1 m1 b1 l1 _ (by omega) (by simp only[FUEL];omega) (by omega) (by omega) hw1 (fun i2 s2 n2 m2 b2 l2 hw2=>?_)
 have hk2:=chunksOf_len room hr0 _ lg (di 0) (1000+((0:Nat):Int)) (Nat.le_refl _)
 have hm2:=hw2.len
 simp only[List.nil_append,List.length_append] at hm2
 have e0:s.enc.at 0=dl s.nn (s.files.map Fl.enc):=rfl
 show Post (goS (F17.st16_11_0 FUEL) FUEL ⟨(room:Int),b24,l25,b26,(s.enc.at 0),(nI (s.enc.at 0).elems.length),0,s.enc,a,c,dS s1,(room:Int),0,0,n1,m1,n2,m2,s2,(room:Int),0,1000,n2,m2,b2,l2⟩ _)
 rw[e0]
 simp only[elems_slice,List.length_map]
 obtain⟨L2,hL2⟩:∃L2,L2=[]++chunksOf room (di 0) (0+((0:Nat):Int)) hd++chunksOf room (di 0) (1000+((0:Nat):Int)) lg:=⟨_,rfl⟩
 rw[←hL2] at hw2
 have hfl:∀k,(filesOf room (s.files.take k)).length≤8000:=by
  intro k
  have:∀(l:List Fl),(∀f∈l,FlOk f s.last)→(filesOf room l).length≤l.length*600:=by
   intro l
   induction l with
   | nil=>intro _;simp[filesOf]
   | cons f l ih=>
    intro h
    have i1:=ih fun x hx=>h x (by simp[hx])
    have i2:=chunksOf_len room hr0 _ f.data (di f.id) (4096*f.id) (Nat.le_refl _)
    have i3:=(h f (by simp)).data
    simp only[filesOf,List.map_cons,List.flatten_cons,List.length_append,List.length_cons,Nat.add_mul] at i1 ⊢
    omega
  have h1:=this (s.files.take k) fun f hf=>hs.files f (List.mem_of_mem_take hf)
  have h2:(s.files.take k).length≤12:=by simp;omega
  have h3:(s.files.take k).length*600≤12*600:=Nat.mul_le_mul_right _ h2
  omega
 refine goS_rule (fun t:F17.S16_11_0=>∃(k n m:Nat) (b:Bool) (l:List D),t=⟨(room:Int),b24,l25,b26,dl s.nn (s.files.map Fl.enc),nI s.files.length,(k:Int),s.enc,a,c,dS s1,(room:Int),0,0,n1,m1,n,m,s2,(room:Int),0,1000,n2,m2,b,l⟩∧k≤s.files.length∧RowIs n m l (L2++filesOf room (s.files.take k))) (fun t=>s.files.length-t.i179.toNat) Post ?_ _ _ ⟨0,n2,m2,b2,l2,rfl,by omega,by simpa[filesOf] using hw2⟩ (by simp[FUEL];omega)
 rintro _ rec ⟨k,n,m,b,l,rfl,hk,hw⟩ hrec
 simp only[F17.st16_11_0]
 have hmL:=hw.len
 have hfk:=hfl k
 rw[List.length_append,hL2] at hmL
 simp only[List.nil_append,List.length_append] at hmL
 by_cases hkl:k<s.files.length
 ·have hadd:ad .i64 (k:Int) 1=((k+1:Nat):Int):=by rw[ad64 (by omega) (by omega)];rfl
  have hfo:=hs.files _ (List.getElem_mem hkl)
  obtain⟨f,hfe⟩:∃f,f=s.files[k]:=⟨_,rfl⟩
  have hlast:=hs.last1
  have hi0:=hfo.id0
  have hi1:=hfo.id1
  have hda:=hfo.data
  refine pct (by simp;omega) (pct (by simp;omega) ?_)
  simp only[elems_slice,Int.toNat_natCast,ix_map hkl]
  rw[←hfe] at hi0 hi1 hda ⊢
  rw[show f.enc.at 2=dS f.data from rfl,show f.enc.at 0=di f.id from rfl,i_int,ml64 (by omega) (by omega)]
  refine chunk_loop (st:=F17.st110_1_10_25_w2 FUEL) (mk:=fun i s' n m b l=>⟨i,s.enc,a,c,dS s1,(room:Int),0,0,n1,m1,n,m,s2,(room:Int),0,1000,n2,m2,f.enc,dS s',(room:Int),di f.id,4096*f.id,b,l⟩) (ex:=fun i s' n m b l=>.e0 s.enc a c (dS s1) (room:Int) 0 0 n1 m1 n m s2 (room:Int) 0 1000 n2 m2 f.enc (dS s') (room:Int) (di f.id) (4096*f.id) b l) (o:=di f.id) (lg:=4096*f.id) (fun _ _ _ _ _ _ _ _=>rfl) hr0 (by omega) _ f.data.size FUEL 0 f.data n m b l _ (by omega) (by simp only[FUEL];omega) (by omega) (by omega) hw (fun i3 s3 n3 m3 b3 l3 hw3=>?_)
  refine hrec _ ⟨k+1,n3,m3,b3,l3,?_,by omega,?_⟩ ?_
  ·rw[hadd]
  ·rw[filesOf_succ hkl,←hfe,←List.append_assoc]
   have e4:4096*f.id+((0:Nat):Int)=4096*f.id:=by omega
   rw[e4] at hw3
   exact hw3
  ·rw[hadd];simp;omega
 ·refine pcf (by simp;omega) ?_
  have hke:k=s.files.length:=by omega
  subst hke
  rw[List.take_length,hL2] at hw
  have e5:(0:Int)+((0:Nat):Int)=0:=rfl
  have e6:(1000:Int)+((0:Nat):Int)=1000:=rfl
  rw[e5,e6,List.nil_append] at hw
  by_cases h4:400<m
  ·exact pct (by simp;omega) (h0 (by have:=hw.len;unfold itemsOf;omega))
  ·refine pcf (by simp;omega) ?_
   rw[hw.eq]
   exact h1 b (by have:=hw.len;unfold itemsOf;omega)
end
theorem put_evsL {s:St} (hs:StOk s) (nn:Bool) (evs:List Ev) (hev:∀e∈evs,EvW e) (hel:evs.length≤400) (room:Nat) (hr0:8≤room) (hr1:room≤224) {Post:Option D→Prop}
  (hb:(∃e∈evs,evB e=false)→Post (some (.tup [dl false [],db false])))
  (h0:(∀e∈evs,evB e=true)→400<(itemsOf room s (bs (headL s (nI evs.length))) (bs (logL evs))).length→Post (some (.tup [dl false [],db false])))
  (h1:(∀e∈evs,evB e=true)→∀(b:Bool),(itemsOf room s (bs (headL s (nI evs.length))) (bs (logL evs))).length≤400→Post (some (.tup [dl b (itemsOf room s (bs (headL s (nI evs.length))) (bs (logL evs))),db true]))) :
  Post (goS (F17.st6 FUEL) FUEL (.s0 (dl nn (evs.map Ev.enc)) (room:Int) false [] false (dl nn (evs.map Ev.enc)) (nI evs.length) 0 s.enc 0 0 false []) putK):=by
 have hls:=logL_le evs hev
 have hmul2:evs.length*4208≤400*4208:=Nat.mul_le_mul_right _ hel
 refine goS_rule (fun t:F17.S6=>(t = .s0 (dl nn (evs.map Ev.enc)) (room:Int) false [] false (dl nn (evs.map Ev.enc)) (nI evs.length) 0 s.enc 0 0 false []) ∨
  ∃(k a c:Nat) (b:Bool) (l:List D),t = .s1 (dl nn (evs.map Ev.enc)) (room:Int) false [] false (dl nn (evs.map Ev.enc)) (nI evs.length) (k:Int) s.enc a c b l∧1≤k∧k≤evs.length∧BRow a c l (logL (evs.take k))∧0<c∧(∀j (h:j<evs.length),j<k→evB evs[j]=true))
  (fun t=>match t with | .s0 ..=>evs.length+1 | .s1 _ _ _ _ _ _ _ i _ _ _ _ _=>evs.length-i.toNat) Post ?_ _ _ (.inl rfl) (by simp[FUEL];omega)
 have hall:(∀j (h:j<evs.length),evB evs[j]=true)→∀e∈evs,evB e=true:=by
  intro h e he
  obtain⟨i,hi,rfl⟩:=List.getElem_of_mem he
  exact h i hi
 have one:∀(k:Nat) (h:k<evs.length),(evB evs[k]=false∧F55.s FUEL evs[k].enc=some (.tup [dS (bs []),db false]))∨(evB evs[k]=true∧F55.s FUEL evs[k].enc=some (.tup [dS (evBytes evs[k]),db true])∧F57.s FUEL (evBytes evs[k])=some (dS (bs (textL (evBytes evs[k]))))):=by
  intro k h
  have he:=hev _ (List.getElem_mem h)
  cases hv:evB evs[k] with
  | false=>exact .inl ⟨rfl,put_bad he hv⟩
  | true=>
   refine .inr ⟨rfl,?_,text_ok _ (by have:=evBytes_leW he;omega)⟩
   rw[evBytes_eq he hv]
   exact put_ok he hv
 have tpos:∀s:ByteArray,0<(textL s).length:=by
  intro s
  have:=numL_pos s.size
  unfold textL
  rw[List.length_append];omega
 have tle:∀(k:Nat) (h:k<evs.length),(textL (evBytes evs[k])).length≤4208:=by
  intro k h
  have h1:=evBytes_leW (hev _ (List.getElem_mem h))
  have:=text_len (s:=evBytes evs[k]) (by unfold big;omega)
  omega
 rintro _ rec (rfl | ⟨k,a,c,b,l,rfl,hk1,hk,hf,hpos,hgd⟩) hrec
 ·simp only[F17.st6]
  by_cases h5:0<evs.length
  ·refine pct (by simp;omega) (pct (by simp;omega) ?_)
   simp only[elems_slice,show (0:Int).toNat=0 from rfl,ix_map h5]
   rcases one 0 h5 with ⟨hv,p⟩ | ⟨hv,p1,p2⟩
   ·exact pbd p (pct rfl (hb ⟨_,List.getElem_mem h5,hv⟩))
   ·have ht:=tle 0 h5
    have htp:=tpos (evBytes evs[0])
    refine pbd p1 (pcf rfl (pbd (x:=dS (bs (textL (evBytes evs[0])))) p2 (pct (by simp[bl];omega) ?_)))
    have hF:=BRow.nil.ap (textL (evBytes evs[0]))
    have hL:logL (evs.take 1)=textL (evBytes evs[0]):=by
     have:=logL_succ h5
     simpa[logL] using this
    have ha1:ad .i64 (0:Int) 1=((1:Nat):Int):=by rw[ad64 (by omega) (by omega)];rfl
    rw[ha1]
    refine hrec _ (.inr ⟨1,0,_,_,_,rfl,by omega,by omega,?_,?_,?_⟩) ?_
    ·rw[hL];exact hF
    ·simp only[s_str,bl];omega
    ·intro j h hj
     obtain rfl:j=0:=by omega
     exact hv
    ·show evs.length-((1:Nat):Int).toNat<evs.length+1
     omega
  ·have hnil:evs=[]:=List.eq_nil_of_length_eq_zero (by omega)
   refine pcf (by simp;omega) ?_
   have hg:∀e∈evs,evB e=true:=by rw[hnil];simp
   exact tailL_A hs nn evs hev hel room hr0 hr1 (h0 hg) (h1 hg) false [] false 0 0 false [] (by rw[hnil];exact BRow.nil) (by simp)
 ·simp only[F17.st6]
  have hlt:=logL_take evs k
  have hcl:=hf.len
  by_cases h5:k<evs.length
  ·have hadd:ad .i64 (k:Int) 1=((k+1:Nat):Int):=by rw[ad64 (by omega) (by omega)];rfl
   refine pct (by simp;omega) (pct (by simp;omega) ?_)
   simp only[elems_slice,Int.toNat_natCast,ix_map h5]
   rcases one k h5 with ⟨hv,p⟩ | ⟨hv,p1,p2⟩
   ·exact pbd p (pct rfl (hb ⟨_,List.getElem_mem h5,hv⟩))
   ·have ht:=tle k h5
    have htp:=tpos (evBytes evs[k])
    refine pbd p1 (pcf rfl (pbd (x:=dS (bs (textL (evBytes evs[k])))) p2 (pct (by simp[bl];omega) ?_)))
    have hF:=hf.ap (textL (evBytes evs[k]))
    rw[←logL_succ h5] at hF
    rw[hadd]
    refine hrec _ (.inr ⟨k+1,0,_,_,_,rfl,by omega,by omega,hF,?_,?_⟩) ?_
    ·simp only[s_str,bl];omega
    ·intro j h hj
     by_cases hjk:j=k
     ·subst hjk;exact hv
     ·exact hgd j h (by omega)
    ·show evs.length-((k+1:Nat):Int).toNat<evs.length-(k:Int).toNat
     omega
  ·refine pcf (by simp;omega) ?_
   have hke:k=evs.length:=by omega
   subst hke
   rw[List.take_length] at hf
   have hg:=hall fun j h=>hgd j h h
   exact tailL_B hs nn evs hev hel room hr0 hr1 (h0 hg) (h1 hg) false [] false a c b l hf (fun _=>hpos)
structure Putt (s:St) (evs:List Ev) (room:Int):Prop where
 r0:8≤room
 r1:room≤224
 len:evs.length≤400
 ids:∀f∈s.files,f.id≤134217728
 good:∀e∈evs,evB e=true
 items:(itemsOf room.toNat s (bs (headL s (nI evs.length))) (bs (logL evs))).length≤400
theorem put_itemsL {s:St} (hs:StOk s) (nn:Bool) (evs:List Ev) (hev:∀e∈evs,EvW e) (room:Int) {Post:Option D→Prop}
  (h0:¬Putt s evs room→Post (some (.tup [dl false [],db false])))
  (h1:Putt s evs room→∀(b:Bool),Post (some (.tup [dl b (itemsOf room.toNat s (bs (headL s (nI evs.length))) (bs (logL evs))),db true]))) :
  Post (F17.s FUEL s.enc (dl nn (evs.map Ev.enc)) room):=by
 have hl:=hs.len
 unfold F17.s
 refine pbd (valid_state hs) (pcf rfl ?_)
 by_cases c1:room<8
 ·exact pct (by simpa using c1) (h0 fun p=>by have:=p.r0;omega)
 refine pcf (by simp;omega) ?_
 by_cases c2:224<room
 ·exact pct (by simpa using c2) (h0 fun p=>by have:=p.r1;omega)
 refine pcf (by simp;omega) ?_
 simp only[elems_slice,List.length_map]
 by_cases c3:400<evs.length
 ·exact pct (by simp;omega) (h0 fun p=>by have:=p.len;omega)
 refine pcf (by simp;omega) ?_
 have rest:(∀f∈s.files,f.id≤134217728)→Post (goS (F17.st6 FUEL) FUEL (.s0 (dl nn (evs.map Ev.enc)) room false [] false (dl nn (evs.map Ev.enc)) (nI evs.length) 0 s.enc 0 0 false []) putK):=by
  intro hids
  obtain⟨r,hr⟩:∃r:Nat,room=(r:Int):=⟨room.toNat,by omega⟩
  have hrr:room.toNat=r:=by omega
  rw[hrr] at h1
  rw[hr]
  refine put_evsL hs nn evs hev (by omega) r (by omega) (by omega) ?_ ?_ ?_
  ·rintro⟨e,he,hv⟩
   exact h0 fun p=>by have:=p.good e he;rw[hv] at this;exact absurd this (by simp)
  ·intro _ hlen
   exact h0 fun p=>by have:=p.items;rw[hrr] at this;omega
  ·intro hg b hlen
   exact h1 ⟨by omega,by omega,by omega,hids,hg,by rw[hrr];exact hlen⟩ b
 have e0:s.enc.at 0=dl s.nn (s.files.map Fl.enc):=rfl
 rw[e0]
 simp only[elems_slice,List.length_map]
 refine goS_rule (fun t:F17.S78_2=>∃k:Nat,t=⟨dl s.nn (s.files.map Fl.enc),nI s.files.length,(k:Int),s.enc⟩∧k≤s.files.length∧∀j (h:j<s.files.length),j<k→s.files[j].id≤134217728) (fun t=>s.files.length-t.i4.toNat) Post ?_ _ _ ⟨0,rfl,by omega,by omega⟩ (by simp[FUEL];omega)
 rintro _ rec ⟨k,rfl,hk,hid⟩ hrec
 simp only[F17.st78_2]
 by_cases h5:k<s.files.length
 ·have hadd:ad .i64 (k:Int) 1=((k+1:Nat):Int):=by rw[ad64 (by omega) (by omega)];rfl
  refine pct (by simp;omega) (pct (by simp;omega) ?_)
  simp only[elems_slice,Int.toNat_natCast,ix_map h5]
  have h52:F52.s FUEL s.files[k].enc=some (db (gtI s.files[k].id 134217728)):=rfl
  refine pbd h52 ?_
  by_cases c4:gtI s.files[k].id 134217728=true
  ·refine pct c4 ?_
   refine pct (by simp) (h0 fun p=>?_)
   have:=p.ids _ (List.getElem_mem h5)
   have h6:134217728<s.files[k].id:=by simpa using c4
   omega
  ·refine pcf (by simpa using c4) ?_
   rw[hadd]
   refine hrec _ ⟨k+1,rfl,by omega,?_⟩ (by simp;omega)
   intro j h hj
   by_cases hjk:j=k
   ·subst hjk
    have h6:¬134217728<s.files[j].id:=by simpa using c4
    omega
   ·exact hid j h (by omega)
 ·refine pcf (by simp;omega) ?_
  refine rest fun f hf=>?_
  obtain⟨i,hi,rfl⟩:=List.getElem_of_mem hf
  exact hid i hi (by omega)
end Go.AM.SY
set_option linter.all false
namespace Go.AM.SY
open Go Go.AM
def Tells (o:Option D) (p:Prop):Prop:=(p∧o=some (db true))∨(¬p∧o=some (db false))
def HG (l:List ByteArray) (k:Nat):Prop:=∀h:k<l.length,nameB l[k]=true∧∀h0:0<k,lessB l[k-1] l[k]=true
structure VF (f:Fl):Prop where
 id0:1≤f.id
 id1:f.id≤1099511627776
 name:nameB f.name=true
 data:f.data.size≤600
 until0:0≤f.until_
 until1:f.until_≤1099511627776
 hold:f.holds.length≤4
 opn:f.sealed=false→f.until_=0∧f.holds=[]
 hs:∀k,HG f.holds k
structure LitF (f:Fl):Prop where
 name:f.name.size≤1000
 hsz:∀s∈f.holds,s.size≤1000
 nil:f.nn=false→f.holds=[]
theorem file_tells {f:Fl} (hf:LitF f):Tells (F106.s FUEL f.enc) (VF f):=by
 suffices h:∀Post:Option D→Prop,(VF f→Post (some (db true)))→(¬VF f→Post (some (db false)))→Post (F106.s FUEL f.enc) from
  h (fun o=>Tells o (VF f)) (fun h=>.inl ⟨h,rfl⟩) (fun h=>.inr ⟨h,rfl⟩)
 intro Post hT hF
 have hns:=hf.name
 have h1:(f.enc.at 0).i=f.id:=rfl
 have h1n:(f.enc.at 1).s=f.name:=rfl
 have h2:(f.enc.at 2).s=f.data:=rfl
 have h3:(f.enc.at 3).b=f.sealed:=rfl
 have h4:(f.enc.at 4).i=f.until_:=rfl
 have h5:f.enc.at 5=dl f.nn (f.holds.map dS):=rfl
 unfold F106.s
 refine pbd (numbered_spec f.id) ?_
 by_cases c1:1≤f.id∧f.id≤1099511627776
 case neg=>exact pct (by show (!(decide (1≤f.id)&&decide (f.id≤1099511627776)))=true;simp;omega) (hF fun v=>c1 ⟨v.id0,v.id1⟩)
 refine pcf (by show (!(decide (1≤f.id)&&decide (f.id≤1099511627776)))=false;simp;omega) (pbd (name_spec f.name (by omega)) ?_)
 by_cases c2:nameB f.name=true
 case neg=>exact pct (by show (!nameB f.name)=true;simp[c2]) (hF fun v=>c2 v.name)
 refine pcf (by show (!nameB f.name)=false;simp[c2]) ?_
 by_cases c3:f.data.size≤600
 case neg=>exact pct (by show gtI (nI f.data.size) 600=true;simp;omega) (hF fun v=>c3 v.data)
 refine pcf (by show gtI (nI f.data.size) 600=false;simp;omega) ?_
 by_cases c4:0≤f.until_
 case neg=>exact pct (by show ltI f.until_ 0=true;simp;omega) (hF fun v=>c4 v.until0)
 refine pcf (by show ltI f.until_ 0=false;simp;omega) ?_
 by_cases c5:f.until_≤1099511627776
 case neg=>exact pct (by show gtI f.until_ 1099511627776=true;simp;omega) (hF fun v=>c5 v.until1)
 refine pcf (by show gtI f.until_ 1099511627776=false;simp;omega) ?_
 by_cases c6:f.holds.length≤4
 case neg=>exact pct (by show gtI (nI (f.holds.map dS).length) 4=true;simp;omega) (hF fun v=>c6 v.hold)
 refine pcf (by show gtI (nI (f.holds.map dS).length) 4=false;simp;omega) ?_
 rw[h3,h4,h5]
 by_cases hse:f.sealed=true
 ·refine pcf (by simp[hse]) ?_
  refine goS_rule (fun t:F106.S6=>∃k:Nat,t=⟨dl f.nn (f.holds.map dS),nI (f.holds.map dS).length,(k:Int),f.enc⟩∧k≤f.holds.length∧∀j,j<k→HG f.holds j) (fun t=>f.holds.length-t.i5.toNat) Post ?_ _ _ ⟨0,rfl,by omega,by omega⟩ (by simp[FUEL];omega)
  rintro _ rec ⟨k,rfl,hk,hg⟩ hrec
  simp only[F106.st6]
  by_cases h1:k<f.holds.length
  ·have hadd:ad .i64 (k:Int) 1=((k+1:Nat):Int):=by rw[ad64 (by omega) (by omega)];rfl
   have hkz:=hf.hsz _ (List.getElem_mem h1)
   refine pct (by simp;omega) (pct (by simp;omega) ?_)
   simp only[elems_slice,Int.toNat_natCast,ix_map h1]
   refine pbd (name_spec f.holds[k] (by omega)) ?_
   by_cases n1:nameB f.holds[k]=true
   case neg=>exact pct (by show (!nameB f.holds[k])=true;simp[n1]) (hF fun v=>n1 (v.hs k h1).1)
   refine pcf (by show (!nameB f.holds[k])=false;simp[n1]) ?_
   have fin:(∀h0:0<k,lessB f.holds[k-1] f.holds[k]=true)→Post (rec ⟨dl f.nn (f.holds.map dS),nI (f.holds.map dS).length,ad .i64 (k:Int) 1,f.enc⟩):=by
    intro hl
    rw[hadd]
    refine hrec _ ⟨k+1,rfl,by omega,?_⟩ (by simp;omega)
    intro j hj
    by_cases hjk:j=k
    ·subst hjk;exact fun _=>⟨n1,hl⟩
    ·exact hg j (by omega)
   by_cases h0:0<k
   ·have hsub:sb .i64 (k:Int) 1=((k-1:Nat):Int):=by rw[sb64 (by omega) (by omega)];omega
    have hk1:k-1<f.holds.length:=by omega
    have hkz1:=hf.hsz _ (List.getElem_mem hk1)
    refine pct (by simp;omega) (pct (by rw[h5,hsub];simp;omega) ?_)
    rw[h5,hsub]
    simp only[elems_slice,Int.toNat_natCast,ix_map hk1]
    refine pbd (less_spec _ _ (by show f.holds[k-1].size≤_;omega) (by show f.holds[k].size≤_;omega)) ?_
    rw[show (dS f.holds[k-1]).s=f.holds[k-1] from rfl,show (dS f.holds[k]).s=f.holds[k] from rfl]
    by_cases l1:lessB f.holds[k-1] f.holds[k]=true
    ·exact pcf (by show (!lessB f.holds[k-1] f.holds[k])=false;simp[l1]) (fin fun _=>l1)
    ·exact pct (by show (!lessB f.holds[k-1] f.holds[k])=true;simp[l1]) (hF fun v=>l1 ((v.hs k h1).2 h0))
   ·exact pcf (by simp;omega) (fin fun h=>absurd h h0)
  ·refine pcf (by simp;omega) (hT ⟨c1.1,c1.2,c2,c3,c4,c5,c6,fun h=>by rw[hse] at h;simp at h,fun j h=>hg j (by omega) h⟩)
 ·have hse':f.sealed=false:=by simpa using hse
  refine pct (by simp[hse']) ?_
  by_cases c7:f.until_=0
  ·refine pct (by simp[c7]) ?_
   by_cases c8:f.holds.length=0
   ·have hnil:f.holds=[]:=List.eq_nil_of_length_eq_zero c8
    have:=hT ⟨c1.1,c1.2,c2,c3,c4,c5,c6,fun _=>⟨c7,hnil⟩,fun j h=>by rw[hnil] at h;simp at h⟩
    have e9:eqI (nI (f.holds.map dS).length) 0=true:=by rw[hnil];rfl
    show Post (some (db (eqI (nI (f.holds.map dS).length) 0)))
    rw[e9];exact this
   ·have:=hF fun v=>c8 (by rw[(v.opn hse').2];rfl)
    have e9:eqI (nI (f.holds.map dS).length) 0=false:=by simp only[eqI_f,nI_eq,List.length_map];omega
    show Post (some (db (eqI (nI (f.holds.map dS).length) 0)))
    rw[e9];exact this
  ·exact pcf (by simp[c7]) (hF fun v=>c7 (v.opn hse').1)
def SG (s:St) (k:Nat):Prop:=∀h:k<s.files.length,VF s.files[k]∧s.files[k].id≤s.last∧findI (fun f:Fl=>decide (f.name=s.files[k].name)) s.files=(k:Int)∧∀h0:0<k,s.files[k-1].id<s.files[k].id
structure VS (s:St):Prop where
 len:s.files.length≤12
 last0:0≤s.last
 last1:s.last≤1099511627776
 floor0:0≤s.floor
 floor1:s.floor≤1099511627776
 fs:∀k,SG s k
structure LitS (s:St):Prop where
 len:s.files.length≤1048576
 nil:s.nn=false→s.files=[]
 files:∀f∈s.files,LitF f
theorem state_tells {s:St} (hs:LitS s):Tells (F53.s FUEL s.enc) (VS s):=by
 suffices h:∀Post:Option D→Prop,(VS s→Post (some (db true)))→(¬VS s→Post (some (db false)))→Post (F53.s FUEL s.enc) from
  h (fun o=>Tells o (VS s)) (fun h=>.inl ⟨h,rfl⟩) (fun h=>.inr ⟨h,rfl⟩)
 intro Post hT hF
 have hl:=hs.len
 unfold F53.s
 have h0:s.enc.at 0=dl s.nn (s.files.map Fl.enc):=rfl
 have hla:(s.enc.at 1).i=s.last:=rfl
 have hfl:(s.enc.at 2).i=s.floor:=rfl
 rw[h0,hla,hfl]
 by_cases c1:s.files.length≤12
 case neg=>exact pct (by simp;omega) (hF fun v=>c1 v.len)
 refine pcf (by simp;omega) (pbd (within_specM _ _) ?_)
 by_cases c2:0≤s.last∧s.last≤1099511627776
 case neg=>exact pct (by show (!(decide (0≤s.last)&&decide (s.last≤1099511627776)))=true;simp;omega) (hF fun v=>c2 ⟨v.last0,v.last1⟩)
 refine pcf (by show (!(decide (0≤s.last)&&decide (s.last≤1099511627776)))=false;simp;omega) (pbd (within_specM _ _) ?_)
 by_cases c3:0≤s.floor∧s.floor≤1099511627776
 case neg=>exact pct (by show (!(decide (0≤s.floor)&&decide (s.floor≤1099511627776)))=true;simp;omega) (hF fun v=>c3 ⟨v.floor0,v.floor1⟩)
 refine pcf (by show (!(decide (0≤s.floor)&&decide (s.floor≤1099511627776)))=false;simp;omega) ?_
 refine goS_rule (fun t:F53.S4=>∃k:Nat,t=⟨dl s.nn (s.files.map Fl.enc),nI s.files.length,(k:Int),s.enc⟩∧k≤s.files.length∧∀j,j<k→SG s j) (fun t=>s.files.length-t.i5.toNat) Post ?_ _ _ ⟨0,by simp,by omega,by omega⟩ (by simp[FUEL];omega)
 rintro _ rec ⟨k,rfl,hk,hg⟩ hrec
 simp only[F53.st4]
 by_cases h1:k<s.files.length
 ·have hadd:ad .i64 (k:Int) 1=((k+1:Nat):Int):=by rw[ad64 (by omega) (by omega)];rfl
  have hf:=hs.files _ (List.getElem_mem h1)
  refine pct (by simp;omega) (pct (by simp;omega) ?_)
  simp only[elems_slice,Int.toNat_natCast,ix_map h1]
  rcases file_tells hf with ⟨v1,e1⟩ | ⟨v1,e1⟩
  case inr=>exact pbd e1 (pct rfl (hF fun v=>v1 (v.fs k h1).1))
  refine pbd e1 (pcf rfl ?_)
  by_cases c4:s.files[k].id≤s.last
  case neg=>exact pct (by show gtI s.files[k].id s.last=true;simp;omega) (hF fun v=>c4 (v.fs k h1).2.1)
  refine pcf (by show gtI s.files[k].id s.last=false;simp;omega) ?_
  refine pbd (find_specM s s.files[k].name (by omega)) ?_
  by_cases c5:findI (fun f:Fl=>decide (f.name=s.files[k].name)) s.files=(k:Int)
  case neg=>exact pct (by show neI (findI (fun f:Fl=>decide (f.name=s.files[k].name)) s.files) (k:Int)=true;simpa using c5) (hF fun v=>c5 (v.fs k h1).2.2.1)
  refine pcf (by show neI (findI (fun f:Fl=>decide (f.name=s.files[k].name)) s.files) (k:Int)=false;simpa using c5) ?_
  have fin:(∀h0:0<k,s.files[k-1].id<s.files[k].id)→Post (rec ⟨dl s.nn (s.files.map Fl.enc),nI s.files.length,ad .i64 (k:Int) 1,s.enc⟩):=by
   intro hl
   rw[hadd]
   refine hrec _ ⟨k+1,rfl,by omega,?_⟩ (by simp;omega)
   intro j hj
   by_cases hjk:j=k
   ·subst hjk;exact fun _=>⟨v1,c4,c5,hl⟩
   ·exact hg j (by omega)
  by_cases hk0:0<k
  ·have hsub:sb .i64 (k:Int) 1=((k-1:Nat):Int):=by rw[sb64 (by omega) (by omega)];omega
   have hk1:k-1<s.files.length:=by omega
   refine pct (by simp;omega) (pct (by rw[h0,hsub];simp;omega) ?_)
   rw[h0,hsub]
   simp only[elems_slice,Int.toNat_natCast,ix_map hk1]
   by_cases c6:s.files[k-1].id<s.files[k].id
   ·exact pcf (by show geI s.files[k-1].id s.files[k].id=false;simp;omega) (fin fun _=>c6)
   ·exact pct (by show geI s.files[k-1].id s.files[k].id=true;simp;omega) (hF fun v=>c6 ((v.fs k h1).2.2.2 hk0))
  ·exact pcf (by simp;omega) (fin fun h=>absurd h hk0)
 ·exact pcf (by simp;omega) (hT ⟨c1,c2.1,c2.2,c3.1,c3.2,fun j h=>hg j (by omega) h⟩)
theorem rise_of {α:Type} {r:α→α→Prop} (tr:∀a b c,r a b→r b c→r a c) {l:List α} (h:∀k (hk:k+1<l.length),r l[k] l[k+1]):l.Pairwise r:=by
 rw[List.pairwise_iff_getElem]
 intro i j hi hj hij
 induction j with
 | zero=>omega
 | succ j ih=>
  by_cases e:i=j
  ·subst e;exact h i hj
  ·exact tr _ _ _ (ih (by omega) (by omega)) (h j hj)
theorem vs_ok {s:St} (hs:LitS s) (v:VS s):StOk s:=by
 refine⟨v.len,hs.nil,v.last0,v.last1,v.floor0,v.floor1,?_,?_,?_⟩
 ·intro f hf
  have hl:=hs.files f hf
  obtain⟨i,hi,rfl⟩:=List.getElem_of_mem hf
  obtain⟨w,h1,_⟩:=v.fs i hi
  refine⟨w.id0,h1,w.name,hl.name,w.data,w.until0,w.until1,w.hold,hl.hsz,?_,?_,hl.nil,w.opn⟩
  ·intro x hx
   obtain⟨k,hk,rfl⟩:=List.getElem_of_mem hx
   exact(w.hs k hk).1
  ·refine rise_of (r:=fun a b=>lessB a b=true) (fun a b c h1 h2=>less_trans h1 h2) fun k hk=>?_
   have:=(w.hs (k+1) hk).2 (by omega)
   simp only[Nat.add_sub_cancel] at this
   exact this
 ·refine rise_of (r:=fun a b:Fl=>a.id<b.id) (fun a b c h1 h2=>by omega) fun k hk=>?_
  have:=(v.fs (k+1) hk).2.2.2 (by omega)
  simp only[Nat.add_sub_cancel] at this
  exact this
 ·rw[List.pairwise_iff_getElem]
  intro i j hi hj hij e
  have h1:=(v.fs j hj).2.2.1
  have h2:s.files.findIdx? (fun f:Fl=>decide (f.name=s.files[j].name))=some j:=by
   unfold findI at h1
   split at h1
   ·rename_i x hx;rw[hx];congr 1;omega
   ·omega
  rw[List.findIdx?_eq_some_iff_getElem] at h2
  obtain⟨_,_,h3⟩:=h2
  have:=h3 i hij
  simp[e] at this
theorem put_tells {s:St} (hs:LitS s) (nn:Bool) (evs:List Ev) (hev:∀e∈evs,EvW e) (room:Int) {Post:Option D→Prop}
  (h0:¬(VS s∧Putt s evs room)→Post (some (.tup [dl false [],db false])))
  (h1:VS s→Putt s evs room→∀(b:Bool),Post (some (.tup [dl b (itemsOf room.toNat s (bs (headL s (nI evs.length))) (bs (logL evs))),db true]))) :
  Post (F17.s FUEL s.enc (dl nn (evs.map Ev.enc)) room):=by
 rcases state_tells hs with ⟨v,e⟩ | ⟨v,e⟩
 ·exact put_itemsL (vs_ok hs v) nn evs hev room (fun h=>h0 fun p=>h p.2) (h1 v)
 ·unfold F17.s
  exact pbd e (pct rfl (h0 fun p=>v p.1))
end Go.AM.SY
namespace Go.AM.SY
open Go Go.AM
def bN (t:ByteArray) (k:Nat):Nat:=(t.data.toList.getD k 0).toNat
theorem byteAt_bN (t:ByteArray) (k:Nat):byteAt t k=(bN t k:Int):=rfl
theorem bN_lt (t:ByteArray) (k:Nat):bN t k<256:=(t.data.toList.getD k 0).toNat_lt
theorem cv_byte (t:ByteArray) (k:Nat):cv .i64 (byteAt t k)=(bN t k:Int):=by
 have:=bN_lt t k
 have h:=ad64 (a:=(bN t k:Int)) (b:=0) (by omega) (by omega)
 rw[byteAt_bN]
 simpa[ad,cv] using h
theorem r22 {M N:Nat} {t:ByteArray} {n i:Nat} {low v:Int} (hi:i<n) (hn:n≤4) (hs:n≤t.size) (hv0:0≤v) (hv1:v≤100000000) (K:F252.X22→Option D) (NEG:Option D)
  (h0:∀a b c d e,K (.e0 a b c d e)=NEG) (h1:∀a b c d e,K (.e1 a b c d e)=NEG) :
  goS (F252.st22 M) (N+1) ⟨t,(n:Int),low,v,(i:Int)⟩ K=if 128≤bN t i∧bN t i≤191 then goS (F252.st22 M) N ⟨t,(n:Int),low,v*64+(bN t i:Int)-128,((i+1:Nat):Int)⟩ K else NEG:=by
 have hb:=bN_lt t i
 have hml:ml .i64 v 64=v*64:=ml64 (by omega) (by omega)
 have had:ad .i64 (v*64) (bN t i:Int)=v*64+(bN t i:Int):=ad64 (by omega) (by omega)
 have hsb:sb .i64 (v*64+(bN t i:Int)) 128=v*64+(bN t i:Int)-128:=sb64 (by omega) (by omega)
 have hadd:ad .i64 (i:Int) 1=((i+1:Nat):Int):=by rw[ad64 (by omega) (by omega)];rfl
 show F252.st22 M ⟨t,(n:Int),low,v,(i:Int)⟩ (fun s=>goS (F252.st22 M) N s K) K=_
 simp only[F252.st22,Int.toNat_natCast,cv_byte,hml,had,hsb,hadd]
 by_cases hc:128≤bN t i∧bN t i≤191
 ·rw[if_pos hc]
  exact ct (by simp;omega) (ct (by simp;omega) (cf (by simp;omega) (cf (by simp;omega) rfl)))
 ·rw[if_neg hc]
  refine ct (by simp;omega) (ct (by simp;omega) ?_)
  by_cases h:bN t i<128
  ·exact ct (by simp;omega) (h0 _ _ _ _ _)
  ·exact cf (by simp;omega) (ct (by simp;omega) (h1 _ _ _ _ _))
theorem e22 {M N:Nat} {t:ByteArray} {n:Nat} {low v:Int} (K:F252.X22→Option D):goS (F252.st22 M) (N+1) ⟨t,(n:Int),low,v,(n:Int)⟩ K=K (.e2 t (n:Int) low v (n:Int)):=by
 show F252.st22 M ⟨t,(n:Int),low,v,(n:Int)⟩ (fun s=>goS (F252.st22 M) N s K) K=_
 simp only[F252.st22]
 exact cf (by simp) rfl
def refR (p:Nat×Nat):Int×Int:=if p.1=65533∧p.2<2 then (-1,1) else ((p.1:Int),(p.2:Int))
def tupR (x:Int×Int):Option D:=some (D.tup [di x.1,di x.2])
theorem decode_bN (t:ByteArray):Utf8.decode t 0=Lib.decodeN t.size (bN t 0) (bN t 1) (bN t 2) (bN t 3):=by
 rw[Lib.decode_N]
 rfl
theorem neg_R:tupR (refR (65533,1))=some (D.tup [di (-1),di 1]):=rfl
theorem rune_spec (t:ByteArray) (ht:0<t.size):F252.s FUEL t=tupR (refR (Utf8.decode t 0)):=by
 rw[decode_bN]
 have k0:=bN_lt t 0
 have k1:=bN_lt t 1
 have k2:=bN_lt t 2
 have k3:=bN_lt t 3
 generalize hb1:bN t 1=b1 at k1
 generalize hb2:bN t 2=b2 at k2
 generalize hb3:bN t 3=b3 at k3
 unfold F252.s
 simp only[cv_byte]
 generalize hb0:bN t 0=b0 at k0
 refine ct (by simp only[inb_t];omega) ?_
 have hF:FUEL=18446744073709551612+1+1+1+1:=rfl
 by_cases c0:b0<128
 ·refine ct (by simp only[ltI_t];omega) ?_
  have:Lib.decodeN t.size b0 b1 b2 b3=(b0,1):=by unfold Lib.decodeN;rw[if_pos c0]
  rw[this]
  unfold refR tupR
  rw[if_neg (by dsimp only;omega)]
  rfl
 refine cf (by simp only[ltI_f];omega) ?_
 by_cases c1:b0<194
 ·have:Lib.decodeN t.size b0 b1 b2 b3=(65533,1):=by
   unfold Lib.decodeN
   rw[if_neg c0]
   split
   ·rw[if_neg (by omega)]
   ·rw[if_neg (by omega),if_neg (by omega)]
  rw[this,neg_R]
  refine cf (by simp only[geI_f];omega) (cf (by simp only[geI_f];omega) (cf (by simp only[geI_f];omega) rfl))
 by_cases c2:b0<224
 ·refine ct (by simp only[geI_t];omega) (ct (by simp only[ltI_t];omega) ?_)
  by_cases hsz:t.size<2
  ·have:Lib.decodeN t.size b0 b1 b2 b3=(65533,1):=by
    unfold Lib.decodeN
    rw[if_neg c0,if_neg (by omega),if_neg (by omega),if_neg (by omega)]
   rw[this,neg_R]
   exact ct (by simp only[ltI_t,nI_eq];omega) rfl
  refine cf (by simp only[ltI_f,nI_eq];omega) ?_
  have hsb:sb .i64 (b0:Int) 192=(b0:Int)-192:=sb64 (by omega) (by omega)
  rw[hsb]
  have step:=r22 (M:=FUEL) (N:=18446744073709551612+1+1+1) (t:=t) (n:=2) (i:=1) (low:=128) (v:=(b0:Int)-192) (by omega) (by omega) (by omega) (by omega) (by omega)
   (fun x=>match x with | .e0 s1 i2 i3 i4 i5=>(some (D.tup [(di (-1)),(di 1)])) | .e1 s1 i2 i3 i4 i5=>(some (D.tup [(di (-1)),(di 1)])) | .e2 s1 i2 i3 i4 i5=>(cond (ltI i4 i3) (some (D.tup [(di (-1)),(di 1)])) (cond (gtI i4 1114111) (some (D.tup [(di (-1)),(di 1)])) (cond (geI i4 55296) (cond (leI i4 57343) (some (D.tup [(di (-1)),(di 1)])) (some (D.tup [(di i4),(di i2)]))) (some (D.tup [(di i4),(di i2)])))))) (some (D.tup [(di (-1)),(di 1)])) (fun _ _ _ _ _=>rfl) (fun _ _ _ _ _=>rfl)
  refine Eq.trans step ?_
  rw[hb1]
  by_cases hc:128≤b1∧b1≤191
  ·rw[if_pos hc,e22]
   have:Lib.decodeN t.size b0 b1 b2 b3=(b0%32*64+b1%64,2):=by
    unfold Lib.decodeN
    rw[if_neg c0,if_pos (by omega),if_pos (by omega)]
   rw[this]
   have hv:((b0:Int)-192)*64+(b1:Int)-128=((b0%32*64+b1%64:Nat):Int):=by omega
   rw[hv]
   refine cf (by simp only[ltI_f];omega) (cf (by simp only[gtI_f];omega) (cf (by simp only[geI_f];omega) ?_))
   unfold refR tupR
   rw[if_neg (by dsimp only;omega)]
  ·rw[if_neg hc]
   have:Lib.decodeN t.size b0 b1 b2 b3=(65533,1):=by
    unfold Lib.decodeN
    rw[if_neg c0,if_neg (by omega),if_neg (by omega),if_neg (by omega)]
   rw[this,neg_R]
 refine ct (by simp only[geI_t];omega) (cf (by simp only[ltI_f];omega) ?_)
 by_cases c3:b0<240
 ·refine ct (by simp only[geI_t];omega) (ct (by simp only[ltI_t];omega) ?_)
  by_cases hsz:t.size<3
  ·have:Lib.decodeN t.size b0 b1 b2 b3=(65533,1):=by
    unfold Lib.decodeN
    rw[if_neg c0,if_neg (by omega),if_neg (by omega),if_neg (by omega)]
   rw[this,neg_R]
   exact ct (by simp only[ltI_t,nI_eq];omega) rfl
  refine cf (by simp only[ltI_f,nI_eq];omega) ?_
  have hsb:sb .i64 (b0:Int) 224=(b0:Int)-224:=sb64 (by omega) (by omega)
  rw[hsb]
  have step:=r22 (M:=FUEL) (N:=18446744073709551612+1+1+1) (t:=t) (n:=3) (i:=1) (low:=2048) (v:=(b0:Int)-224) (by omega) (by omega) (by omega) (by omega) (by omega)
   (fun x=>match x with | .e0 s1 i2 i3 i4 i5=>(some (D.tup [(di (-1)),(di 1)])) | .e1 s1 i2 i3 i4 i5=>(some (D.tup [(di (-1)),(di 1)])) | .e2 s1 i2 i3 i4 i5=>(cond (ltI i4 i3) (some (D.tup [(di (-1)),(di 1)])) (cond (gtI i4 1114111) (some (D.tup [(di (-1)),(di 1)])) (cond (geI i4 55296) (cond (leI i4 57343) (some (D.tup [(di (-1)),(di 1)])) (some (D.tup [(di i4),(di i2)]))) (some (D.tup [(di i4),(di i2)])))))) (some (D.tup [(di (-1)),(di 1)])) (fun _ _ _ _ _=>rfl) (fun _ _ _ _ _=>rfl)
  refine Eq.trans step ?_
  rw[hb1]
  by_cases hc:128≤b1∧b1≤191
  ·rw[if_pos hc,r22 (by omega) (by omega) (by omega) (by omega) (by omega) _ (some (D.tup [(di (-1)),(di 1)])) (fun _ _ _ _ _=>rfl) (fun _ _ _ _ _=>rfl),hb2]
   by_cases hc2:128≤b2∧b2≤191
   ·rw[if_pos hc2,e22]
    have hv:(((b0:Int)-224)*64+(b1:Int)-128)*64+(b2:Int)-128=((b0%16*4096+b1%64*64+b2%64:Nat):Int):=by omega
    rw[hv]
    generalize hcc:b0%16*4096+b1%64*64+b2%64=c
    by_cases hok:c≥2048∧(c<55296∨(57344≤c∧c≤1114111))
    ·have:Lib.decodeN t.size b0 b1 b2 b3=(c,3):=by
      unfold Lib.decodeN
      rw[if_neg c0,if_neg (by omega),if_pos (by omega),hcc,if_pos hok]
     rw[this]
     refine cf (by simp only[ltI_f];omega) (cf (by simp only[gtI_f];omega) ?_)
     have hfin:some (D.tup [di (c:Int),di ((3:Nat):Int)])=tupR (refR (c,3)):=by
      unfold refR tupR
      rw[if_neg (by dsimp only;omega)]
     by_cases h55:55296≤c
     ·exact ct (by simp only[geI_t];omega) (cf (by simp only[leI_f];omega) hfin)
     ·exact cf (by simp only[geI_f];omega) hfin
    ·have:Lib.decodeN t.size b0 b1 b2 b3=(65533,1):=by
      unfold Lib.decodeN
      rw[if_neg c0,if_neg (by omega),if_pos (by omega),hcc,if_neg hok]
     rw[this,neg_R]
     by_cases hlow:c<2048
     ·exact ct (by simp only[ltI_t];omega) rfl
     ·refine cf (by simp only[ltI_f];omega) (cf (by simp only[gtI_f];omega) (ct (by simp only[geI_t];omega) (ct (by simp only[leI_t];omega) rfl)))
   ·rw[if_neg hc2]
    have:Lib.decodeN t.size b0 b1 b2 b3=(65533,1):=by
     unfold Lib.decodeN
     rw[if_neg c0,if_neg (by omega),if_neg (by omega),if_neg (by omega)]
    rw[this,neg_R]
  ·rw[if_neg hc]
   have:Lib.decodeN t.size b0 b1 b2 b3=(65533,1):=by
    unfold Lib.decodeN
    rw[if_neg c0,if_neg (by omega),if_neg (by omega),if_neg (by omega)]
   rw[this,neg_R]
 refine ct (by simp only[geI_t];omega) (cf (by simp only[ltI_f];omega) (ct (by simp only[geI_t];omega) ?_))
 by_cases c4:b0<245
 ·refine ct (by simp only[ltI_t];omega) ?_
  by_cases hsz:t.size<4
  ·have:Lib.decodeN t.size b0 b1 b2 b3=(65533,1):=by
    unfold Lib.decodeN
    rw[if_neg c0,if_neg (by omega),if_neg (by omega),if_neg (by omega)]
   rw[this,neg_R]
   exact ct (by simp only[ltI_t,nI_eq];omega) rfl
  refine cf (by simp only[ltI_f,nI_eq];omega) ?_
  have hsb:sb .i64 (b0:Int) 240=(b0:Int)-240:=sb64 (by omega) (by omega)
  rw[hsb]
  have step:=r22 (M:=FUEL) (N:=18446744073709551612+1+1+1) (t:=t) (n:=4) (i:=1) (low:=65536) (v:=(b0:Int)-240) (by omega) (by omega) (by omega) (by omega) (by omega)
   (fun x=>match x with | .e0 s1 i2 i3 i4 i5=>(some (D.tup [(di (-1)),(di 1)])) | .e1 s1 i2 i3 i4 i5=>(some (D.tup [(di (-1)),(di 1)])) | .e2 s1 i2 i3 i4 i5=>(cond (ltI i4 i3) (some (D.tup [(di (-1)),(di 1)])) (cond (gtI i4 1114111) (some (D.tup [(di (-1)),(di 1)])) (cond (geI i4 55296) (cond (leI i4 57343) (some (D.tup [(di (-1)),(di 1)])) (some (D.tup [(di i4),(di i2)]))) (some (D.tup [(di i4),(di i2)])))))) (some (D.tup [(di (-1)),(di 1)])) (fun _ _ _ _ _=>rfl) (fun _ _ _ _ _=>rfl)
  refine Eq.trans step ?_
  rw[hb1]
  by_cases hc:128≤b1∧b1≤191
  ·rw[if_pos hc,r22 (by omega) (by omega) (by omega) (by omega) (by omega) _ (some (D.tup [(di (-1)),(di 1)])) (fun _ _ _ _ _=>rfl) (fun _ _ _ _ _=>rfl),hb2]
   by_cases hc2:128≤b2∧b2≤191
   ·rw[if_pos hc2,r22 (by omega) (by omega) (by omega) (by omega) (by omega) _ (some (D.tup [(di (-1)),(di 1)])) (fun _ _ _ _ _=>rfl) (fun _ _ _ _ _=>rfl),hb3]
    by_cases hc3:128≤b3∧b3≤191
    ·rw[if_pos hc3,e22]
     have hv:((((b0:Int)-240)*64+(b1:Int)-128)*64+(b2:Int)-128)*64+(b3:Int)-128=((b0%8*262144+b1%64*4096+b2%64*64+b3%64:Nat):Int):=by omega
     rw[hv]
     generalize hcc:b0%8*262144+b1%64*4096+b2%64*64+b3%64=c
     by_cases hok:c≥65536∧(c<55296∨(57344≤c∧c≤1114111))
     ·have:Lib.decodeN t.size b0 b1 b2 b3=(c,4):=by
       unfold Lib.decodeN
       rw[if_neg c0,if_neg (by omega),if_neg (by omega),if_pos (by omega),hcc,if_pos hok]
      rw[this]
      refine cf (by simp only[ltI_f];omega) (cf (by simp only[gtI_f];omega) (ct (by simp only[geI_t];omega) (cf (by simp only[leI_f];omega) ?_)))
      unfold refR tupR
      rw[if_neg (by dsimp only;omega)]
     ·have:Lib.decodeN t.size b0 b1 b2 b3=(65533,1):=by
       unfold Lib.decodeN
       rw[if_neg c0,if_neg (by omega),if_neg (by omega),if_pos (by omega),hcc,if_neg hok]
      rw[this,neg_R]
      by_cases hlow:c<65536
      ·exact ct (by simp only[ltI_t];omega) rfl
      ·exact cf (by simp only[ltI_f];omega) (ct (by simp only[gtI_t];omega) rfl)
    ·rw[if_neg hc3]
     have:Lib.decodeN t.size b0 b1 b2 b3=(65533,1):=by
      unfold Lib.decodeN
      rw[if_neg c0,if_neg (by omega),if_neg (by omega),if_neg (by omega)]
     rw[this,neg_R]
   ·rw[if_neg hc2]
    have:Lib.decodeN t.size b0 b1 b2 b3=(65533,1):=by
     unfold Lib.decodeN
     rw[if_neg c0,if_neg (by omega),if_neg (by omega),if_neg (by omega)]
    rw[this,neg_R]
  ·rw[if_neg hc]
   have:Lib.decodeN t.size b0 b1 b2 b3=(65533,1):=by
    unfold Lib.decodeN
    rw[if_neg c0,if_neg (by omega),if_neg (by omega),if_neg (by omega)]
   rw[this,neg_R]
 ·refine cf (by simp only[ltI_f];omega) ?_
  have:Lib.decodeN t.size b0 b1 b2 b3=(65533,1):=by
   unfold Lib.decodeN
   rw[if_neg c0,if_neg (by omega),if_neg (by omega)]
   split
   ·rw[if_neg (by omega)]
   ·rfl
  rw[this,neg_R]
theorem runes_ref (s:ByteArray) (hs:s.size≤1048576):F227.s FUEL s=some (dl (!(keys s).isEmpty) ((keys s).map di)):=by
 unfold F227.s
 have hlen:=keys_len s
 have key:∀p,p<s.size→(runesFrom s p).map (keyR s)=keyR s (p,(Utf8.decode s p).1)::(runesFrom s (p+(Utf8.decode s p).2)).map (keyR s):=fun p hp=>by rw[runesFrom_step hp];rfl
 refine goS_rule (fun t:F227.S3=>∃(p:Nat) (l:List Int),t=⟨s,0,l.length,(p:Int),!l.isEmpty,l.map di⟩∧p≤s.size+4∧keys s=l++(runesFrom s p).map (keyR s)) (fun t=>s.size-t.i4.toNat) (fun o=>o=some (dl (!(keys s).isEmpty) ((keys s).map di))) ?_ _ _ ⟨0,[],rfl,by omega,by simp[keys,runes,runesFrom]⟩ (by simp[FUEL];omega)
 rintro _ rec ⟨p,l,rfl,hp4,hk⟩ hrec
 have hll:l.length≤s.size:=by
  have:=congrArg List.length hk
  simp at this;omega
 simp only[F227.st3]
 by_cases h:p<s.size
 ·refine ct (by simp only[ltI_t,nI_eq];omega) (ct (by simp;omega) ?_)
  have hsz:(s.extract (Int.toNat (p:Int)) s.size).size=s.size-p:=by simp
  refine bdS (rune_spec _ (by rw[hsz];omega)) ?_
  have hde:Utf8.decode (s.extract (Int.toNat (p:Int)) s.size) 0=Utf8.decode s p:=by rw[Int.toNat_natCast,Lib.tail_decode,Nat.add_zero]
  rw[hde]
  rw[key p h] at hk
  have hpos:=decode_pos s p
  have hw:(Utf8.decode s p).2≤4:=by
   rw[Lib.decode_N]
   generalize (s.data.toList.length-p)=n
   rcases Lib.decodeN_shape n (s.data.toList.getD p 0).toNat (s.data.toList.getD (p+1) 0).toNat (s.data.toList.getD (p+2) 0).toNat (s.data.toList.getD (p+3) 0).toNat with ⟨_,e⟩ | ⟨_,_,_,_,e⟩ | ⟨_,_,_,_,_,_,e⟩ | ⟨_,_,_,_,_,_,_,e⟩ | e
   all_goals rw[e];simp
  have htop:=dec_top s p
  have fin:∀(x:Int) (w:Int),x=keyR s (p,(Utf8.decode s p).1)→w=((Utf8.decode s p).2:Int)→rec ⟨s,0,l.length+1,ad .i64 (p:Int) w,!l.isEmpty||true,ap (((l.map di).drop 0).take l.length) [di x]⟩=some (dl (!(keys s).isEmpty) ((keys s).map di)):=by
   rintro x w rfl rfl
   have hadd:ad .i64 (p:Int) ((Utf8.decode s p).2:Int)=((p+(Utf8.decode s p).2:Nat):Int):=by rw[ad64 (by omega) (by omega)];rfl
   rw[hadd]
   refine hrec _ ⟨p+(Utf8.decode s p).2,l++[keyR s (p,(Utf8.decode s p).1)],?_,by omega,by rw[hk];simp⟩ ?_
   ·rw[F227.S3.mk.injEq]
    refine⟨rfl,rfl,by simp,rfl,by cases l<;>rfl,?_⟩
    rw[List.drop_zero,List.take_of_length_le (by simp),ap,List.map_append]
    rfl
   ·dsimp only;omega
  unfold refR
  by_cases hb:(Utf8.decode s p).1=65533∧(Utf8.decode s p).2<2
  ·rw[if_pos hb]
   have hr:=byteAt_range s p
   refine ct (by show ltI (-1) 0=true;simp) (ct (by simp only[inb_t];omega) (ct (by simp;omega) ?_))
   have e1:ad .i64 1114112 (cv .i64 (byteAt s (Int.toNat (p:Int))))=keyR s (p,(Utf8.decode s p).1):=by
    rw[Int.toNat_natCast,cv_byte,←byteAt_bN,ad64 (by omega) (by omega),keyR,if_pos hb]
   exact fin _ _ e1 (by show (1:Int)=_;omega)
  ·rw[if_neg hb]
   refine cf (by show ltI ((Utf8.decode s p).1:Int) 0=false;simp) (ct (by simp;omega) ?_)
   exact fin _ _ (by rw[keyR,if_neg hb]) rfl
 ·refine cf (by simp only[ltI_f,nI_eq];omega) ?_
  rw[runesFrom_end (by omega)] at hk
  simp only[List.map_nil,List.append_nil] at hk
  rw[hk]
  exact ct (by simp) rfl
theorem less_ref (a b:ByteArray) (ha:a.size≤1048576) (hb:b.size≤1048576):F170.s FUEL a b=some (db (lessB a b)):=by
 unfold F170.s
 refine bdS (runes_ref a ha) (bdS (runes_ref b hb) ?_)
 have hla:=keys_len a
 have hlb:=keys_len b
 simp only[elems_slice,nn_slice,List.length_map]
 generalize hx:keys a=xs at hla
 generalize hy:keys b=ys at hlb
 refine goS_rule (fun t:F170.S4=>∃i:Nat,t=⟨0,xs.length,0,ys.length,(i:Int),!xs.isEmpty,xs.map di,!ys.isEmpty,ys.map di⟩∧i≤xs.length∧i≤ys.length∧∀j (h1:j<xs.length) (h2:j<ys.length),j<i→xs[j]=ys[j]) (fun t=>xs.length-t.i7.toNat) (fun o=>o=some (db (lessB a b))) ?_ _ _ ⟨0,by simp,by omega,by omega,by omega⟩ (by simp[FUEL];omega)
 rintro _ rec ⟨i,rfl,hi,hi',hs⟩ hrec
 have hlex:=lexB_drop hs hi hi'
 simp only[F170.st4]
 unfold lessB at hrec ⊢
 rw[hx,hy] at hrec ⊢
 have hend:(xs.drop i=[]∨ys.drop i=[])→(i=xs.length∨i=ys.length)→some (db (ltI (nI xs.length) (nI ys.length)))=some (db (lexB xs ys)):=by
  intro _ he
  rw[hlex]
  congr 2
  rw[Bool.eq_iff_iff,ltI_t,nI_eq,nI_eq]
  rcases he with rfl | rfl
  ·rw[List.drop_length]
   simp only[lexB]
   rw[Bool.not_eq_true',List.isEmpty_eq_false_iff,←List.length_pos_iff,List.length_drop]
   omega
  ·rw[List.drop_length (l:=ys)]
   by_cases hix:ys.length<xs.length
   ·rw[List.drop_eq_getElem_cons hix]
    simp only[lexB]
    constructor
    ·intro h;omega
    ·intro h;simp at h
   ·rw[List.drop_of_length_le (l:=xs) (by omega)]
    simp only[lexB]
    constructor
    ·intro h;omega
    ·intro h;simp at h
 by_cases h1:i<xs.length
 ·by_cases h2:i<ys.length
  ·rw[List.drop_eq_getElem_cons h1,List.drop_eq_getElem_cons h2] at hlex
   simp only[lexB] at hlex
   refine ct (by simp;omega) (ct (by simp;omega) (ct (by simp;omega) (ct (by simp;omega) ?_)))
   simp only[Int.toNat_natCast,Nat.zero_add,ix_map h1,ix_map h2,i_int]
   by_cases h3:xs[i]=ys[i]
   ·refine cf (by simpa using h3) ?_
    have hadd:ad .i64 (i:Int) 1=((i+1:Nat):Int):=by rw[ad64 (by omega) (by omega)];rfl
    rw[hadd]
    refine hrec _ ⟨i+1,rfl,by omega,by omega,?_⟩ (by simp;omega)
    intro j hj1 hj2 hj
    by_cases hji:j=i
    ·subst hji;exact h3
    ·exact hs j hj1 hj2 (by omega)
   ·refine ct (by simpa using h3) (ct (by simp;omega) (ct (by simp;omega) ?_))
    rw[if_neg h3] at hlex
    rw[hlex]
    rfl
  ·refine ct (by simp;omega) (cf (by simp;omega) ?_)
   exact hend (.inr (List.drop_of_length_le (by omega))) (.inr (by omega))
 ·refine cf (by simp;omega) ?_
  exact hend (.inl (List.drop_of_length_le (by omega))) (.inl (by omega))
end Go.AM.SY
namespace Go.AM.SY
open Go Go.AM
theorem ends_rune {s:ByteArray} {p:Nat} (h:p<s.size) :
  (byteAt s p=32↔(Utf8.decode s p).1=32)∧(byteAt s (p+(Utf8.decode s p).2-1)=32↔(Utf8.decode s p).1=32)∧p+(Utf8.decode s p).2≤s.size:=by
 have hl:(s.data.toList.drop p).length=s.size-p:=by simp
 have hb:∀k,byteAt s (p+k)=(((s.data.toList.drop p).getD k 0).toNat:Int):=by
  intro k
  unfold byteAt
  simp[List.getD_eq_getElem?_getD]
 have b0:=hb 0
 have b1:=hb 1
 have b2:=hb 2
 have b3:=hb 3
 rw[Nat.add_zero] at b0
 have e:=Lib.decodeL_N (s.data.toList.drop p)
 rw[dec_L,hl] at e
 rw[e]
 generalize ((s.data.toList.drop p).getD 0 0).toNat=c0 at *
 generalize ((s.data.toList.drop p).getD 1 0).toNat=c1 at *
 generalize ((s.data.toList.drop p).getD 2 0).toNat=c2 at *
 generalize ((s.data.toList.drop p).getD 3 0).toNat=c3 at *
 by_cases k0:c0<128
 ·have:Lib.decodeN (s.size-p) c0 c1 c2 c3=(c0,1):=by unfold Lib.decodeN;rw[if_pos k0]
  rw[this]
  dsimp only
  rw[show p+1-1=p by omega,b0]
  omega
 ·rcases Lib.decodeN_shape (s.size-p) c0 c1 c2 c3 with ⟨c,e⟩ | ⟨d1,d2,d3,cv,e⟩ | ⟨d1,d2,d3,d4,cv,cs,e⟩ | ⟨d1,d2,d3,d4,d5,cv,cw,e⟩ | e
  ·omega
  ·rw[e];dsimp only;rw[show p+2-1=p+1 by omega,b1,b0];omega
  ·rw[e];dsimp only;rw[show p+3-1=p+2 by omega,b2,b0];omega
  ·rw[e];dsimp only;rw[show p+4-1=p+3 by omega,b3,b0];omega
  ·rw[e];dsimp only;rw[show p+1-1=p by omega,b0];omega
theorem key32 {s:ByteArray} {r:Nat×Nat}:keyR s r=32↔r.2=32:=by
 unfold keyR
 split
 ·rename_i h
  have:=byteAt_range s r.1
  omega
 ·omega
theorem last_rune {s:ByteArray}:∀(n p:Nat),s.size-p≤n→p<s.size→∃q,q<s.size∧(runesFrom s p).getLast? = some (q,(Utf8.decode s q).1)∧q+(Utf8.decode s q).2=s.size
 | 0,p,hn,hp=>by omega
 | n+1,p,hn,hp=>by
  have h1:=decode_pos s p
  have h2:=(ends_rune hp).2.2
  rw[runesFrom_step hp]
  by_cases h:p+(Utf8.decode s p).2<s.size
  ·obtain⟨q,a1,a2,a3⟩:=last_rune n _ (by omega) h
   exact⟨q,a1,by rw[List.getLast?_cons,a2];rfl,a3⟩
  ·rw[runesFrom_end (by omega)]
   exact⟨p,hp,rfl,by omega⟩
theorem odd_key {s:ByteArray} {r:Nat×Nat} (hr:r.2≤1114111):(oddR (r.2:Int)=false)↔¬(keyR s r<32)∧keyR s r≠47∧¬(127≤keyR s r∧keyR s r≤159)∧keyR s r≠65533∧keyR s r<1114112:=by
 have hb:=byteAt_range s r.1
 have e:oddR (r.2:Int)=false↔¬((r.2:Int)<32)∧(r.2:Int)≠47∧¬(127≤(r.2:Int)∧(r.2:Int)≤159)∧(r.2:Int)≠65533:=by
  simp[oddR]
  omega
 rw[e]
 unfold keyR
 split<;>omega
theorem rune_top {s:ByteArray}:∀(n p:Nat),s.size-p≤n→∀r∈runesFrom s p,r.2≤1114111
 | 0,p,hn,r,hr=>by rw[runesFrom_end (by omega)] at hr;simp at hr
 | n+1,p,hn,r,hr=>by
  by_cases h:p<s.size
  ·have h1:=decode_pos s p
   rw[runesFrom_step h] at hr
   rcases List.mem_cons.1 hr with rfl | hr
   ·exact dec_top s p
   ·exact rune_top n _ (by omega) r hr
  ·rw[runesFrom_end (by omega)] at hr;simp at hr
theorem valid_ref (s:ByteArray) (hs:s.size≤1048576):F169.s FUEL s=some (db (nameB s)):=by
 unfold F169.s
 have hlen:=runes_len s
 have hR:runes s=runesFrom s 0:=rfl
 have hK:(keys s).length=(runes s).length:=by simp[keys]
 refine bdS (runes_ref s hs) ?_
 simp only[elems_slice,nn_slice,List.length_map]
 rw[hK]
 unfold nameB
 by_cases h1:0<(runes s).length
 ·have hsz:0<s.size:=by omega
  rw[decide_eq_true h1,Bool.true_and]
  refine cf (by simp;omega) ?_
  by_cases h2:(runes s).length≤24
  ·rw[decide_eq_true h2,Bool.true_and]
   refine cf (by simp;omega) (ct (by simp;omega) ?_)
   have hk0:0<(keys s).length:=by omega
   have hkl:(keys s).length-1<(keys s).length:=by omega
   have hsb:sb .i64 (nI (runes s).length) 1=(((keys s).length-1:Nat):Int):=by rw[nI_eq,sb64 (by omega) (by omega)];omega
   rw[hsb,ix_map hk0,Int.toNat_natCast,Nat.zero_add,ix_map hkl]
   have first:(keys s)[0]=32↔byteAt s 0=32:=by
    have e:(keys s)[0]=keyR s (0,(Utf8.decode s 0).1):=by
     have:keys s=keyR s (0,(Utf8.decode s 0).1)::(runesFrom s (0+(Utf8.decode s 0).2)).map (keyR s):=by unfold keys;rw[hR,runesFrom_step hsz];rfl
     simp only[this,List.getElem_cons_zero]
    rw[e,key32,(ends_rune hsz).1]
   have last:(keys s)[(keys s).length-1]=32↔byteAt s (s.size-1)=32:=by
    obtain⟨q,a1,a2,a3⟩:=last_rune s.size 0 (by omega) hsz
    have e:(keys s)[(keys s).length-1]=keyR s (q,(Utf8.decode s q).1):=by
     have h3:(keys s).getLast? = some (keyR s (q,(Utf8.decode s q).1)):=by unfold keys;rw[hR,List.getLast?_map,a2];rfl
     rw[List.getLast?_eq_getElem?,List.getElem?_eq_getElem hkl] at h3
     exact Option.some.inj h3
    have:=(ends_rune a1).2.1
    rw[show q+(Utf8.decode s q).2-1=s.size-1 by omega] at this
    rw[e,key32,this]
   by_cases h3:byteAt s 0=32
   ·have hb:nameB s=false:=by unfold nameB;simp[h3]
    unfold nameB at hb
    rw[decide_eq_true h1,Bool.true_and,decide_eq_true h2,Bool.true_and] at hb
    rw[hb]
    exact ct (by simp[first.2 h3]) rfl
   refine cf (by rw[i_int,eqI_f];exact fun h=>h3 (first.1 h)) (ct (by simp;omega) ?_)
   by_cases h4:byteAt s (s.size-1)=32
   ·have hb:nameB s=false:=by unfold nameB;simp[h4]
    unfold nameB at hb
    rw[decide_eq_true h1,Bool.true_and,decide_eq_true h2,Bool.true_and] at hb
    rw[hb]
    exact ct (by simp[last.2 h4]) rfl
   refine cf (by rw[i_int,eqI_f];exact fun h=>h4 (last.1 h)) ?_
   rw[decide_eq_true h3,decide_eq_true h4,Bool.true_and,Bool.and_true]
   refine goS_rule (fun t:F169.S5=>∃k:Nat,t=⟨0,(runes s).length,(k:Int),!(keys s).isEmpty,(keys s).map di⟩∧k≤(runes s).length∧∀i (hi:i<(runes s).length),i<k→oddR ((runes s)[i].2:Int)=false) (fun t=>(runes s).length-t.i4.toNat) (fun o=>o=some (db ((runes s).all fun r=>!oddR r.2))) ?_ _ _ ⟨0,rfl,by omega,by omega⟩ (by simp[FUEL];omega)
   rintro _ rec ⟨k,rfl,hk,hs5⟩ hrec
   simp only[F169.st5]
   by_cases h5:k<(runes s).length
   ·have hkk:k<(keys s).length:=by omega
    have hadd:ad .i64 (k:Int) 1=((k+1:Nat):Int):=by rw[ad64 (by omega) (by omega)];rfl
    refine ct (by simp;omega) (ct (by simp;omega) ?_)
    rw[Int.toNat_natCast,Nat.zero_add,ix_map hkk,i_int,hadd]
    have hkey:(keys s)[k]=keyR s (runes s)[k]:=by simp[keys]
    rw[hkey]
    have htop:=rune_top s.size 0 (by omega) _ (show (runes s)[k]∈runesFrom s 0 from List.getElem_mem h5)
    have hodd:=odd_key (s:=s) htop
    generalize keyR s (runes s)[k]=key at hodd
    have no:oddR ((runes s)[k].2:Int)=true→(some (db false):Option D)=some (db ((runes s).all fun r=>!oddR r.2)):=by
     intro h
     have:((runes s).all fun r=>!oddR r.2)=false:=by
      rw[List.all_eq_false]
      exact⟨_,List.getElem_mem h5,by simp[h]⟩
     rw[this]
    have nof:¬(¬(key<32)∧key≠47∧¬(127≤key∧key≤159)∧key≠65533∧key<1114112)→oddR ((runes s)[k].2:Int)=true:=by
     intro h
     cases ho:oddR ((runes s)[k].2:Int) with
     | true=>rfl
     | false=>exact absurd (hodd.1 ho) h
    have yes:(¬(key<32)∧key≠47∧¬(127≤key∧key≤159)∧key≠65533∧key<1114112)→rec ⟨0,(runes s).length,((k+1:Nat):Int),!(keys s).isEmpty,(keys s).map di⟩=some (db ((runes s).all fun r=>!oddR r.2)):=by
     intro h
     refine hrec _ ⟨k+1,rfl,by omega,fun i hi hik=>?_⟩ (by simp;omega)
     by_cases hkk:i=k
     ·subst hkk;exact hodd.2 h
     ·exact hs5 i hi (by omega)
    by_cases g1:key<32
    ·exact ct (by simpa using g1) (no (nof (by omega)))
    refine cf (by simp;omega) ?_
    by_cases g2:key=47
    ·exact ct (by simpa using g2) (no (nof (by omega)))
    refine cf (by simpa using g2) ?_
    by_cases g3:127≤key
    ·refine ct (by simpa using g3) ?_
     by_cases g4:key≤159
     ·exact ct (by simpa using g4) (no (nof (by omega)))
     refine cf (by simp;omega) ?_
     by_cases g5:key=65533
     ·exact ct (by simpa using g5) (no (nof (by omega)))
     refine cf (by simpa using g5) ?_
     by_cases g6:1114112≤key
     ·exact ct (by simpa using g6) (no (nof (by omega)))
     exact cf (by simp;omega) (yes (by omega))
    ·refine cf (by simp;omega) ?_
     by_cases g5:key=65533
     ·exact ct (by simpa using g5) (no (nof (by omega)))
     refine cf (by simpa using g5) ?_
     by_cases g6:1114112≤key
     ·exact ct (by simpa using g6) (no (nof (by omega)))
     exact cf (by simp;omega) (yes (by omega))
   ·refine cf (by simp;omega) ?_
    have:((runes s).all fun r=>!oddR r.2)=true:=by
     simp only[List.all_eq_true]
     intro r hr
     obtain⟨i,hi,rfl⟩:=List.getElem_of_mem hr
     rw[hs5 i hi (by omega)];rfl
    rw[this]
  ·rw[decide_eq_false h2]
   exact ct (by simp;omega) rfl
 ·rw[decide_eq_false h1]
  exact ct (by simp;omega) rfl
end Go.AM.SY
namespace Go.AM.SY
open Go Go.AM
theorem B_eq (t g1 g2 e:Bool) (k:Bool→Option D):F114.B t g1 g2 e k=k ((t&&(g1&&g2))||(!t&&e)):=by
 cases t<;>cases g1<;>cases g2<;>cases e<;>rfl
theorem C_eq (t g e:Bool) (k:Bool→Option D):F114.C t g e k=k ((t&&g)||(!t&&e)):=by
 cases t<;>cases g<;>cases e<;>rfl
theorem beq_bytes (a b:ByteArray):(a==b)=decide (a=b):=by
 obtain⟨x⟩:=a;obtain⟨y⟩:=b
 have:((⟨x⟩:ByteArray)==⟨y⟩)=(x==y):=rfl
 rw[this,Bool.eq_iff_iff];simp
theorem zeros_encA:da (rp 32 (D.int .u8 0))=sumD zeros:=by kernel_rfl
theorem W_spec (e:Ev) (least:Int) (t0 t1 t2 t3 t4:Bool) (hn:e.name.size≤1048576) (hs:e.sum.length=32) :
  F114.W0 e.enc (da [db t0,db t1,db t2,db t3,db t4]) least (db (nameB e.name))=some (db (((t0&&(decide (1≤e.id)&&decide (e.id≤1099511627776)))||(!t0&&decide (e.id=0))) &&
   ((((t1&&nameB e.name)||(!t1&&decide (e.name=bs [])))&&((((t2&&(decide (0≤e.time)&&decide (e.time≤1099511627776)))||(!t2&&decide (e.time=0))) &&
   ((((t3&&(decide (least≤e.len)&&decide (e.len≤600)))||(!t3&&decide (e.len=0)))&&(t4||e.sum==zeros))))))))):=by
 unfold F114.W0 F114.W1 F114.W2 F114.W3 F114.W4
 have a1:(e.enc.at 1).i=e.id:=rfl
 have a2:(e.enc.at 2).s=e.name:=rfl
 have a3:(e.enc.at 3).i=e.time:=rfl
 have a4:(e.enc.at 4).i=e.len:=rfl
 have a5:e.enc.at 5=sumD e.sum:=rfl
 have b0:((da [db t0,db t1,db t2,db t3,db t4]).at 0).b=t0:=rfl
 have b1:((da [db t0,db t1,db t2,db t3,db t4]).at 1).b=t1:=rfl
 have b2:((da [db t0,db t1,db t2,db t3,db t4]).at 2).b=t2:=rfl
 have b3:((da [db t0,db t1,db t2,db t3,db t4]).at 3).b=t3:=rfl
 have b4:((da [db t0,db t1,db t2,db t3,db t4]).at 4).b=t4:=rfl
 rw[a1,a2,a3,a4,a5,b0,b1,b2,b3,b4,B_eq,C_eq,B_eq,B_eq,zeros_encA]
 have h9:D.eqv ty eqDepth (sumD e.sum) (sumD zeros) (.array 32 5)=some (e.sum==zeros):=eqv_sum 14 hs (by simp[zeros])
 rw[h9]
 have i1:geI e.id 1=decide (1≤e.id):=rfl
 have i2:leI e.id 1099511627776=decide (e.id≤1099511627776):=rfl
 have i3:eqI e.id 0=decide (e.id=0):=by rw[Bool.eq_iff_iff];simp
 have i4:geI e.time 0=decide (0≤e.time):=rfl
 have i5:leI e.time 1099511627776=decide (e.time≤1099511627776):=rfl
 have i6:eqI e.time 0=decide (e.time=0):=by rw[Bool.eq_iff_iff];simp
 have i7:geI e.len least=decide (least≤e.len):=rfl
 have i8:leI e.len 600=decide (e.len≤600):=rfl
 have i9:eqI e.len 0=decide (e.len=0):=by rw[Bool.eq_iff_iff];simp
 have j1:eqS e.name (bs [])=decide (e.name=bs []):=by rw[Bool.eq_iff_iff];simp
 have j2:(D.bool (nameB e.name)).b=nameB e.name:=rfl
 rw[i1,i2,i3,i4,i5,i6,i7,i8,i9,j1,j2]
 generalize ((t0&&(decide (1≤e.id)&&decide (e.id≤1099511627776)))||(!t0&&decide (e.id=0)))=x0
 generalize ((t1&&nameB e.name)||(!t1&&decide (e.name=bs [])))=x1
 generalize ((t2&&(decide (0≤e.time)&&decide (e.time≤1099511627776)))||(!t2&&decide (e.time=0)))=x2
 generalize ((t3&&(decide (least≤e.len)&&decide (e.len≤600)))||(!t3&&decide (e.len=0)))=x3
 generalize (e.sum==zeros)=x4
 cases t4<;>cases x0<;>cases x1<;>cases x2<;>cases x3<;>rfl
theorem valid_ev (e:Ev) (hn:e.name.size≤1048576) (hs:e.sum.length=32):F114.s FUEL e.enc=some (db (evB e)):=by
 unfold F114.s
 have a0:(e.enc.at 0).i=e.kind:=rfl
 rw[a0]
 by_cases h0:e.kind<0
 ·exact ct (by simpa using h0) (by have:evB e=false:=by { unfold evB;simp;omega }
                                   rw[this])
 refine cf (by simp;omega) ?_
 by_cases h7:7<e.kind
 ·exact ct (by simpa using h7) (by have:evB e=false:=by { unfold evB;simp;omega }
                                   rw[this])
 refine cf (by simp;omega) ?_
 have hk:=kinds e (by omega) (by omega)
 rcases hk with h | h | h | h | h | h | h | h
 all_goals rw[h]
 ·refine bdS (x:=da [db true,db true,db false,db false,db false]) rfl (cf rfl (bdS (valid_ref e.name hn) ?_))
  rw[W_spec e 0 _ _ _ _ _ hn hs]
  congr 2
  rw[Bool.eq_iff_iff]
  simp[evB,evEq,evCanon,h,beq_bytes]
  grind
 ·refine bdS (x:=da [db true,db false,db false,db true,db false]) rfl (ct rfl (bdS (valid_ref e.name hn) ?_))
  rw[W_spec e 1 _ _ _ _ _ hn hs]
  congr 2
  rw[Bool.eq_iff_iff]
  simp[evB,evEq,evCanon,h,beq_bytes]
  grind
 ·refine bdS (x:=da [db true,db false,db true,db true,db true]) rfl (cf rfl (bdS (valid_ref e.name hn) ?_))
  rw[W_spec e 0 _ _ _ _ _ hn hs]
  congr 2
  rw[Bool.eq_iff_iff]
  simp[evB,evEq,evCanon,h,beq_bytes]
  grind
 ·refine bdS (x:=da [db true,db false,db true,db false,db false]) rfl (cf rfl (bdS (valid_ref e.name hn) ?_))
  rw[W_spec e 0 _ _ _ _ _ hn hs]
  congr 2
  rw[Bool.eq_iff_iff]
  simp[evB,evEq,evCanon,h,beq_bytes]
  grind
 ·refine bdS (x:=da [db true,db true,db false,db false,db false]) rfl (cf rfl (bdS (valid_ref e.name hn) ?_))
  rw[W_spec e 0 _ _ _ _ _ hn hs]
  congr 2
  rw[Bool.eq_iff_iff]
  simp[evB,evEq,evCanon,h,beq_bytes]
  grind
 ·refine bdS (x:=da [db true,db true,db false,db false,db false]) rfl (cf rfl (bdS (valid_ref e.name hn) ?_))
  rw[W_spec e 0 _ _ _ _ _ hn hs]
  congr 2
  rw[Bool.eq_iff_iff]
  simp[evB,evEq,evCanon,h,beq_bytes]
  grind
 ·refine bdS (x:=da [db true,db false,db false,db false,db false]) rfl (cf rfl (bdS (valid_ref e.name hn) ?_))
  rw[W_spec e 0 _ _ _ _ _ hn hs]
  congr 2
  rw[Bool.eq_iff_iff]
  simp[evB,evEq,evCanon,h,beq_bytes]
  grind
 ·refine bdS (x:=da [db false,db false,db true,db false,db false]) rfl (cf rfl (bdS (valid_ref e.name hn) ?_))
  rw[W_spec e 0 _ _ _ _ _ hn hs]
  congr 2
  rw[Bool.eq_iff_iff]
  simp[evB,evEq,evCanon,h,beq_bytes]
  grind
end Go.AM.SY
set_option linter.all false
namespace Go.AM.SY
open Go Go.AM
theorem file_ref {f:Fl} (hf:LitF f):Tells (F112.s FUEL f.enc) (VF f):=by
 suffices h:∀Post:Option D→Prop,(VF f→Post (some (db true)))→(¬VF f→Post (some (db false)))→Post (F112.s FUEL f.enc) from
  h (fun o=>Tells o (VF f)) (fun h=>.inl ⟨h,rfl⟩) (fun h=>.inr ⟨h,rfl⟩)
 intro Post hT hF
 have hns:=hf.name
 have h0:(f.enc.at 0).i=f.id:=rfl
 have h1n:(f.enc.at 1).s=f.name:=rfl
 have h2:(f.enc.at 2).s=f.data:=rfl
 have h3:(f.enc.at 3).b=f.sealed:=rfl
 have h4:(f.enc.at 4).i=f.until_:=rfl
 have h5:f.enc.at 5=dl f.nn (f.holds.map dS):=rfl
 unfold F112.s
 rw[h0,h1n,h2,h3,h4,h5]
 simp only[elems_slice,List.length_map]
 refine pbd (valid_ref f.name (by omega)) ?_
 by_cases c1:1≤f.id
 case neg=>exact pct (by simp;omega) (hF fun v=>c1 v.id0)
 refine pcf (by simp;omega) ?_
 by_cases c1b:f.id≤1099511627776
 case neg=>exact pct (by simp;omega) (hF fun v=>c1b v.id1)
 refine pcf (by simp;omega) ?_
 by_cases c2:nameB f.name=true
 case neg=>exact pct (by show (!nameB f.name)=true;simp[c2]) (hF fun v=>c2 v.name)
 refine pcf (by show (!nameB f.name)=false;simp[c2]) ?_
 by_cases c3:f.data.size≤600
 case neg=>exact pct (by simp;omega) (hF fun v=>c3 v.data)
 refine pcf (by simp;omega) ?_
 by_cases c4:0≤f.until_
 case neg=>exact pct (by simp;omega) (hF fun v=>c4 v.until0)
 refine pcf (by simp;omega) ?_
 by_cases c5:f.until_≤1099511627776
 case neg=>exact pct (by simp;omega) (hF fun v=>c5 v.until1)
 refine pcf (by simp;omega) ?_
 by_cases c6:f.holds.length≤4
 case neg=>exact pct (by simp;omega) (hF fun v=>c6 v.hold)
 refine pcf (by simp;omega) ?_
 have loop:(f.sealed=false→f.until_=0∧f.holds=[])→Post (goS (F112.st7 FUEL) FUEL ⟨0,f.enc⟩ fun x=>match x with | .e0 d3=>(some (db false)) | .e1 d3=>(some (db true))):=by
  intro hopn
  refine goS_rule (fun t:F112.S7=>∃k:Nat,t=⟨(k:Int),f.enc⟩∧k≤f.holds.length∧∀j,j<k→HG f.holds j) (fun t=>f.holds.length-t.i2.toNat) Post ?_ _ _ ⟨0,rfl,by omega,by omega⟩ (by simp[FUEL];omega)
  rintro _ rec ⟨k,rfl,hk,hg⟩ hrec
  simp only[F112.st7]
  rw[h5]
  simp only[elems_slice,List.length_map]
  by_cases h1:k<f.holds.length
  ·have hadd:ad .i64 (k:Int) 1=((k+1:Nat):Int):=by rw[ad64 (by omega) (by omega)];rfl
   have hkz:=hf.hsz _ (List.getElem_mem h1)
   refine pct (by simp;omega) (pct (by simp;omega) ?_)
   simp only[Int.toNat_natCast,ix_map h1]
   refine pbd (valid_ref f.holds[k] (by omega)) ?_
   by_cases n1:nameB f.holds[k]=true
   case neg=>exact pct (by show (!nameB f.holds[k])=true;simp[n1]) (hF fun v=>n1 (v.hs k h1).1)
   refine pcf (by show (!nameB f.holds[k])=false;simp[n1]) ?_
   have fin:(∀h0:0<k,lessB f.holds[k-1] f.holds[k]=true)→Post (rec ⟨ad .i64 (k:Int) 1,f.enc⟩):=by
    intro hl
    rw[hadd]
    refine hrec _ ⟨k+1,rfl,by omega,?_⟩ (by simp;omega)
    intro j hj
    by_cases hjk:j=k
    ·subst hjk;exact fun _=>⟨n1,hl⟩
    ·exact hg j (by omega)
   by_cases h0:0<k
   ·have hsub:sb .i64 (k:Int) 1=((k-1:Nat):Int):=by rw[sb64 (by omega) (by omega)];omega
    have hk1:k-1<f.holds.length:=by omega
    have hkz1:=hf.hsz _ (List.getElem_mem hk1)
    rw[hsub]
    refine pct (by simp;omega) (pct (by simp;omega) (pct (by simp;omega) ?_))
    simp only[Int.toNat_natCast,ix_map hk1]
    refine pbd (less_ref _ _ (by show f.holds[k-1].size≤_;omega) (by show f.holds[k].size≤_;omega)) ?_
    rw[show (dS f.holds[k-1]).s=f.holds[k-1] from rfl,show (dS f.holds[k]).s=f.holds[k] from rfl]
    by_cases l1:lessB f.holds[k-1] f.holds[k]=true
    ·exact pcf (by show (!lessB f.holds[k-1] f.holds[k])=false;simp[l1]) (fin fun _=>l1)
    ·exact pct (by show (!lessB f.holds[k-1] f.holds[k])=true;simp[l1]) (hF fun v=>l1 ((v.hs k h1).2 h0))
   ·exact pcf (by simp;omega) (fin fun h=>absurd h h0)
  ·exact pcf (by simp;omega) (hT ⟨c1,c1b,c2,c3,c4,c5,c6,hopn,fun j h=>hg j (by omega) h⟩)
 cases hse:f.sealed with
 | true=>exact pcf rfl (loop fun h=>by rw[hse] at h;simp at h)
 | false=>
  refine pct rfl ?_
  by_cases c7:f.until_=0
  case neg=>exact pct (by simpa using c7) (hF fun v=>c7 (v.opn hse).1)
  refine pcf (by simpa using c7) ?_
  by_cases c8:f.holds.length=0
  ·exact pcf (by simp only[gtI_f,nI_eq];omega) (loop fun _=>⟨c7,List.eq_nil_of_length_eq_zero c8⟩)
  ·exact pct (by simp;omega) (hF fun v=>c8 (by rw[(v.opn hse).2];rfl))
theorem find_ref (s:St) (n:ByteArray) (hl:s.files.length≤1048576):F113.s FUEL s.enc n=some (di (findI (fun f:Fl=>decide (f.name=n)) s.files)):=by
 unfold F113.s
 have h0:s.enc.at 0=dl s.nn (s.files.map Fl.enc):=rfl
 refine goS_rule (fun t:F113.S2=>∃k:Nat,t=⟨n,(k:Int),s.enc⟩∧k≤s.files.length∧∀i (h:i<s.files.length),i<k→decide (s.files[i].name=n)=false) (fun t=>s.files.length-t.i2.toNat) (fun o=>o=some (di (findI (fun f:Fl=>decide (f.name=n)) s.files))) ?_ _ _ ⟨0,rfl,by omega,by omega⟩ (by simp[FUEL];omega)
 rintro _ rec ⟨k,rfl,hk,hs⟩ hrec
 simp only[F113.st2]
 rw[h0]
 simp only[elems_slice,List.length_map]
 by_cases h1:k<s.files.length
 ·refine ct (by simp;omega) (ct (by simp;omega) ?_)
  simp only[Int.toNat_natCast,ix_map h1]
  have hnm:(s.files[k].enc.at 1).s=s.files[k].name:=rfl
  rw[hnm]
  by_cases h2:s.files[k].name=n
  ·refine ct (by simpa using h2) ?_
   rw[findI,findIdx_some_of h1 hs (by simpa using h2)]
  ·refine cf (by simpa using h2) (hrec _ ⟨k+1,?_,by omega,?_⟩ ?_)
   ·rw[ad64 (by omega) (by omega)];rfl
   ·intro i hi hik
    by_cases hik':i=k
    ·subst hik';simpa using h2
    ·exact hs i hi (by omega)
   ·rw[ad64 (by omega) (by omega)];simp;omega
 ·refine cf (by simp;omega) ?_
  rw[findI,findIdx_none_of (fun i hi=>hs i hi (by omega))]
theorem state_ref {s:St} (hs:LitS s):Tells (F63.s FUEL s.enc) (VS s):=by
 suffices h:∀Post:Option D→Prop,(VS s→Post (some (db true)))→(¬VS s→Post (some (db false)))→Post (F63.s FUEL s.enc) from
  h (fun o=>Tells o (VS s)) (fun h=>.inl ⟨h,rfl⟩) (fun h=>.inr ⟨h,rfl⟩)
 intro Post hT hF
 have hl:=hs.len
 unfold F63.s
 have h0:s.enc.at 0=dl s.nn (s.files.map Fl.enc):=rfl
 have hla:(s.enc.at 1).i=s.last:=rfl
 have hfl:(s.enc.at 2).i=s.floor:=rfl
 rw[h0,hla,hfl]
 simp only[elems_slice,List.length_map]
 by_cases c1:s.files.length≤12
 case neg=>exact pct (by simp;omega) (hF fun v=>c1 v.len)
 refine pcf (by simp;omega) ?_
 by_cases c2:0≤s.last
 case neg=>exact pct (by simp;omega) (hF fun v=>c2 v.last0)
 refine pcf (by simp;omega) ?_
 by_cases c2b:s.last≤1099511627776
 case neg=>exact pct (by simp;omega) (hF fun v=>c2b v.last1)
 refine pcf (by simp;omega) ?_
 by_cases c3:0≤s.floor
 case neg=>exact pct (by simp;omega) (hF fun v=>c3 v.floor0)
 refine pcf (by simp;omega) ?_
 by_cases c3b:s.floor≤1099511627776
 case neg=>exact pct (by simp;omega) (hF fun v=>c3b v.floor1)
 refine pcf (by simp;omega) ?_
 refine goS_rule (fun t:F63.S4=>∃k:Nat,t=⟨(k:Int),s.enc⟩∧k≤s.files.length∧∀j,j<k→SG s j) (fun t=>s.files.length-t.i1.toNat) Post ?_ _ _ ⟨0,rfl,by omega,by omega⟩ (by simp[FUEL];omega)
 rintro _ rec ⟨k,rfl,hk,hg⟩ hrec
 simp only[F63.st4]
 rw[h0,hla]
 simp only[elems_slice,List.length_map]
 by_cases h1:k<s.files.length
 ·have hadd:ad .i64 (k:Int) 1=((k+1:Nat):Int):=by rw[ad64 (by omega) (by omega)];rfl
  have hf:=hs.files _ (List.getElem_mem h1)
  have hin:inb (k:Int) s.files.length=true:=by simp;omega
  refine pct (by simp;omega) (pct hin ?_)
  simp only[Int.toNat_natCast,ix_map h1]
  rcases file_ref hf with ⟨v1,e1⟩ | ⟨v1,e1⟩
  case inr=>exact pbd e1 (pct rfl (hF fun v=>v1 (v.fs k h1).1))
  refine pbd e1 (pcf rfl (pct hin ?_))
  by_cases c4:s.files[k].id≤s.last
  case neg=>exact pct (by show gtI s.files[k].id s.last=true;simp;omega) (hF fun v=>c4 (v.fs k h1).2.1)
  refine pcf (by show gtI s.files[k].id s.last=false;simp;omega) (pct hin ?_)
  refine pbd (find_ref s s.files[k].name (by omega)) ?_
  by_cases c5:findI (fun f:Fl=>decide (f.name=s.files[k].name)) s.files=(k:Int)
  case neg=>exact pct (by show neI (findI (fun f:Fl=>decide (f.name=s.files[k].name)) s.files) (k:Int)=true;simpa using c5) (hF fun v=>c5 (v.fs k h1).2.2.1)
  refine pcf (by show neI (findI (fun f:Fl=>decide (f.name=s.files[k].name)) s.files) (k:Int)=false;simpa using c5) ?_
  have fin:(∀h0:0<k,s.files[k-1].id<s.files[k].id)→Post (rec ⟨ad .i64 (k:Int) 1,s.enc⟩):=by
   intro hl
   rw[hadd]
   refine hrec _ ⟨k+1,rfl,by omega,?_⟩ (by simp;omega)
   intro j hj
   by_cases hjk:j=k
   ·subst hjk;exact fun _=>⟨v1,c4,c5,hl⟩
   ·exact hg j (by omega)
  by_cases hk0:0<k
  ·have hsub:sb .i64 (k:Int) 1=((k-1:Nat):Int):=by rw[sb64 (by omega) (by omega)];omega
   have hk1:k-1<s.files.length:=by omega
   rw[hsub]
   refine pct (by simp;omega) (pct (by simp;omega) (pct hin ?_))
   simp only[Int.toNat_natCast,ix_map hk1]
   by_cases c6:s.files[k-1].id<s.files[k].id
   ·exact pcf (by show geI s.files[k-1].id s.files[k].id=false;simp;omega) (fin fun _=>c6)
   ·exact pct (by show geI s.files[k-1].id s.files[k].id=true;simp;omega) (hF fun v=>c6 ((v.fs k h1).2.2.2 hk0))
  ·exact pcf (by simp;omega) (fin fun h=>absurd h hk0)
 ·exact pcf (by simp;omega) (hT ⟨c1,c2,c2b,c3,c3b,fun j h=>hg j (by omega) h⟩)
theorem quo128 (m:Nat) (hm:m≤1125899906842624):quoI .i64 (m:Int) 128=((m / 128:Nat):Int):=by
 have h1:(m:Int).tdiv 128=((m / 128:Nat):Int):=rfl
 unfold quoI
 rw[h1,wrap_i64 (by omega) (by omega)]
theorem rem128 (m:Nat):remI (m:Int) 128=((m%128:Nat):Int):=rfl
theorem num_ref (n:Nat) (hn:n≤big):F64.s FUEL (n:Int)=some (dS (bs (numL n))):=by
 have hn':n≤1125899906842624:=hn
 unfold F64.s
 have h0:mini (maxi (n:Int) 0) 1125899906842624=(n:Int):=by
  unfold mini maxi;split<;>split<;>omega
 rw[h0]
 refine goS_rule (fun t:F64.S3=>∃(m:Nat) (acc:List UInt8) (b:Bool),t=⟨(m:Int),0,acc.length,b,acc.map fun b=>D.int .u8 b.toNat⟩∧acc++numL m=numL n∧m≤n) (fun t=>8-t.n3) (fun R=>R=some (dS (bs (numL n)))) ?_ _ _ ⟨n,[],false,rfl,rfl,by omega⟩ (by simp[FUEL])
 rintro _ rec ⟨m,acc,b,rfl,he,hm⟩ hrec
 have hlen:=congrArg List.length he
 rw[List.length_append] at hlen
 have h8:=num_len hn
 have hp:=numL_pos m
 have htk:((acc.map fun b=>D.int .u8 (b.toNat:Int)).drop 0).take acc.length=acc.map fun b=>D.int .u8 (b.toNat:Int):=by
  rw[List.drop_zero];exact List.take_of_length_le (by simp)
 simp only[F64.st3]
 by_cases h1:128≤m
 ·refine ct (by simp;omega) (ct (by simp;omega) ?_)
  have hcv:cv .u8 (ad .i64 (remI (m:Int) 128) 128)=((m%128+128:Nat):Int):=by
   rw[rem128,ad64 (by omega) (by omega)]
   have:=wrap8 (m%128+128)
   rw[Nat.mod_eq_of_lt (show m%128+128<256 by omega)] at this
   rw[←this];rfl
  rw[hcv,htk,quo128 m (by omega)]
  refine hrec _ ⟨m / 128,acc++[UInt8.ofNat (m%128+128)],b||true,?_,?_,by omega⟩ (by simp;omega)
  ·rw[List.map_append,List.length_append]
   simp only[ap,List.map_cons,List.map_nil,List.length_cons,List.length_nil]
   rw[u8_nat (by omega)]
  ·rw[←he,numL_ge h1,List.append_assoc];rfl
 ·refine cf (by simp;omega) ?_
  refine ct (by simp;omega) ?_
  have hcv:cv .u8 (m:Int)=((m%256:Nat):Int):=wrap8 m
  rw[hcv,htk]
  have:ap (acc.map fun b=>D.int .u8 (b.toNat:Int)) [D.int .u8 ((m%256:Nat):Int)]=(acc++numL m).map fun b=>D.int .u8 (b.toNat:Int):=by
   rw[numL_lt (by omega),List.map_append]
   simp only[ap,List.map_cons,List.map_nil]
   rw[u8_nat (by omega),Nat.mod_eq_of_lt (by omega)]
  rw[this,he,List.drop_zero,List.take_of_length_le (by rw[List.length_map,←he,List.length_append,numL_lt (by omega)];simp),ofBytes_of]
theorem num_refI {n:Int} (h0:0≤n) (h1:n≤1125899906842624):F64.s FUEL n=some (dS (bs (numI n))):=by
 have:=num_ref n.toNat (by unfold big;omega)
 rw[show ((n.toNat:Nat):Int)=n by omega] at this
 exact this
theorem cat_bs {a b:List UInt8} (h:a.length+b.length≤1000000000):cat (bs a) (bs b)=some (dS (bs (a++b))):=by
 rw[cat_some (by rw[bsz,bsz];exact h),bs_app]
theorem text_ref (s:ByteArray) (h:s.size≤1048576):F65.s FUEL s=some (dS (bs (textL s))):=by
 have hb:s.size≤big:=by unfold big;omega
 have hn:=num_len hb
 unfold F65.s
 refine bdS (num_ref s.size hb) (bdS (x:=dS (bs (numL s.size)++s)) (cat_some (a:=bs (numL s.size)) (b:=s) (by rw[bsz];omega)) ?_)
 unfold textL
 rw[←bs_app,bs_of]
theorem sum_ref {l:List Int} (hl:l.length=32):F116.s FUEL (sumD l)=some (dS (bs (ofBytes (((sumD l).parts.drop 0).take 32)).data.toList)):=by
 have hp:(sumD l).parts=l.map (D.int .u8):=rfl
 have hpl:(l.map (D.int .u8)).length=32:=by rw[List.length_map,hl]
 have hat:∀k,(h:k<32)→(sumD l).at k=(l.map (D.int .u8))[k]'(by omega):=by
  intro k h
  show (l.map (D.int .u8)).getD k _=_
  rw[List.getD_eq_getElem?_getD,List.getElem?_eq_getElem (by omega)];rfl
 unfold F116.s
 refine bdS (x:=dS (bs (ofBytes (((sumD l).parts.drop 0).take 32)).data.toList)) ?_ rfl
 rw[bs_of,hp]
 unfold F171.s
 refine goS_rule (fun t:F171.S3=>∃(k:Nat) (b:Bool),t=⟨0,k,(k:Int),sumD l,b,(l.map (D.int .u8)).take k⟩∧k≤32) (fun t=>32-t.i3.toNat) (fun R=>R=some (dS (ofBytes (((l.map (D.int .u8)).drop 0).take 32)))) ?_ _ _ ⟨0,false,rfl,by omega⟩ (by simp[FUEL])
 rintro _ rec ⟨k,b,rfl,hk⟩ hrec
 simp only[F171.st3]
 have htk:(((l.map (D.int .u8)).take k).drop 0).take k=(l.map (D.int .u8)).take k:=by
  rw[List.drop_zero];exact List.take_of_length_le (by rw[List.length_take];omega)
 by_cases h1:k<32
 ·have hadd:ad .i64 (k:Int) 1=((k+1:Nat):Int):=by rw[ad64 (by omega) (by omega)];rfl
  refine ct (by simp;omega) (ct (by simp;omega) (ct (by simp;omega) ?_))
  rw[htk,hadd,Int.toNat_natCast,hat k h1]
  refine hrec _ ⟨k+1,b||true,?_,by omega⟩ (by simp;omega)
  rw[List.take_succ_eq_append_getElem (by omega)];rfl
 ·refine cf (by simp;omega) ?_
  have hke:k=32:=by omega
  subst hke
  rw[htk,List.drop_zero]
theorem eput_bad {e:Ev} (hn:e.name.size≤1048576) (hs:e.sum.length=32) (hv:evB e=false):F67.s FUEL e.enc=some (.tup [dS (bs []),db false]):=by
 unfold F67.s
 exact bdS (valid_ev e hn hs) (ct (by show (!(evB e))=true;rw[hv];rfl) rfl)
theorem eput_ok {e:Ev} (he:EvW e) (hv:evB e=true):F67.s FUEL e.enc=some (.tup [dS (bs (evL e)),db true]):=by
 obtain⟨hk0,hk7,hl0,hl6,hl1,ht0,ht1,hid,hev⟩:=valid_range hv
 have hn:=ev_small hv
 have a0:(e.enc.at 0).i=e.kind:=rfl
 have a1:(e.enc.at 1).i=e.id:=rfl
 have a2:(e.enc.at 2).s=e.name:=rfl
 have a3:(e.enc.at 3).i=e.time:=rfl
 have a4:(e.enc.at 4).i=e.len:=rfl
 have a5:e.enc.at 5=sumD e.sum:=rfl
 have x0:=num_refI (n:=e.kind) hk0 (by omega)
 have y0:=numI_len (n:=e.kind) (by omega)
 have x2:=text_ref e.name (by omega)
 have y2:=text_len (s:=e.name) (by unfold big;omega)
 have x3:=num_refI (n:=e.time) ht0 (by omega)
 have y3:=numI_len (n:=e.time) (by omega)
 have x4:=num_refI (n:=e.len) hl0 (by omega)
 have y4:=numI_len (n:=e.len) (by omega)
 have x5:=sum_ref he.sum
 have y5:(ofBytes (((sumD e.sum).parts.drop 0).take 32)).data.toList.length≤32:=by
  rw[toList_size,byte_size];simp;omega
 obtain⟨SB,hSB⟩:∃SB,SB=(ofBytes (((sumD e.sum).parts.drop 0).take 32)).data.toList:=⟨_,rfl⟩
 rw[←hSB] at x5 y5
 have p1:∀n:Int,pb (.iface 249 (di n))=numI n:=fun _=>rfl
 have p2:pb (.iface 246 (dS e.name))=textL e.name:=rfl
 have p3:pb (.iface 250 (sumD e.sum))=SB:=by rw[hSB];rfl
 unfold F67.s
 rw[a0,a1,a2,a3,a4,a5]
 refine bdS (valid_ev e (by omega) he.sum) (cf (by show (!(evB e))=false;rw[hv];rfl) ?_)
 have hk:=kinds e hk0 hk7
 have A:(e.kind=0∨e.kind=4∨e.kind=5)→evL e=numI e.kind++numI e.id++textL e.name:=by
  intro h
  have:partsL e=[.iface 249 (di e.id),.iface 246 (dS e.name)]:=by
   unfold partsL
   rcases h with h | h | h<;>simp[h]
  simp only[evL,this,List.flatMap_cons,List.flatMap_nil,p1,p2,List.append_nil,List.append_assoc]
 rcases hk with h | h | h | h | h | h | h | h
 ·have x1:=num_refI (n:=e.id) (by omega) (by omega)
  have y1:=numI_len (n:=e.id) (by omega)
  rw[A (.inl h)]
  refine bdS (x:=da [db true,db true,db false,db false,db false]) (by rw[h];rfl) (bdS x0 (ct rfl (bdS x1 (bdS (cat_bs (by omega)) (ct rfl (bdS x2 (bdS (cat_bs (by rw[List.length_append];omega)) (cf rfl (cf rfl (cf rfl rfl))))))))))
 ·have x1:=num_refI (n:=e.id) (by omega) (by omega)
  have y1:=numI_len (n:=e.id) (by omega)
  have hL:evL e=numI e.kind++numI e.id++numI e.len:=by
   have:partsL e=[.iface 249 (di e.id),.iface 249 (di e.len)]:=by unfold partsL;simp[h]
   simp only[evL,this,List.flatMap_cons,List.flatMap_nil,p1,List.append_nil,List.append_assoc]
  rw[hL]
  refine bdS (x:=da [db true,db false,db false,db true,db false]) (by rw[h];rfl) (bdS x0 (ct rfl (bdS x1 (bdS (cat_bs (by omega)) (cf rfl (cf rfl (ct rfl (bdS x4 (bdS (cat_bs (by rw[List.length_append];omega)) (cf rfl rfl))))))))))
 ·have x1:=num_refI (n:=e.id) (by omega) (by omega)
  have y1:=numI_len (n:=e.id) (by omega)
  have hL:evL e=numI e.kind++numI e.id++numI e.time++numI e.len++SB:=by
   have:partsL e=[.iface 249 (di e.id),.iface 249 (di e.time),.iface 249 (di e.len),.iface 250 (sumD e.sum)]:=by unfold partsL;simp[h]
   simp only[evL,this,List.flatMap_cons,List.flatMap_nil,p1,p3,List.append_nil,List.append_assoc]
  rw[hL]
  refine bdS (x:=da [db true,db false,db true,db true,db true]) (by rw[h];rfl) (bdS x0 (ct rfl (bdS x1 (bdS (cat_bs (by omega)) (cf rfl (ct rfl (bdS x3 (bdS (cat_bs (by rw[List.length_append];omega)) (ct rfl (bdS x4 (bdS (cat_bs (by simp only[List.length_append];omega)) (ct rfl (bdS x5 (bdS (cat_bs (by simp only[List.length_append];omega)) rfl))))))))))))))
 ·have x1:=num_refI (n:=e.id) (by omega) (by omega)
  have y1:=numI_len (n:=e.id) (by omega)
  have hL:evL e=numI e.kind++numI e.id++numI e.time:=by
   have:partsL e=[.iface 249 (di e.id),.iface 249 (di e.time)]:=by unfold partsL;simp[h]
   simp only[evL,this,List.flatMap_cons,List.flatMap_nil,p1,List.append_nil,List.append_assoc]
  rw[hL]
  refine bdS (x:=da [db true,db false,db true,db false,db false]) (by rw[h];rfl) (bdS x0 (ct rfl (bdS x1 (bdS (cat_bs (by omega)) (cf rfl (ct rfl (bdS x3 (bdS (cat_bs (by rw[List.length_append];omega)) (cf rfl (cf rfl rfl))))))))))
 ·have x1:=num_refI (n:=e.id) (by omega) (by omega)
  have y1:=numI_len (n:=e.id) (by omega)
  rw[A (.inr (.inl h))]
  refine bdS (x:=da [db true,db true,db false,db false,db false]) (by rw[h];rfl) (bdS x0 (ct rfl (bdS x1 (bdS (cat_bs (by omega)) (ct rfl (bdS x2 (bdS (cat_bs (by rw[List.length_append];omega)) (cf rfl (cf rfl (cf rfl rfl))))))))))
 ·have x1:=num_refI (n:=e.id) (by omega) (by omega)
  have y1:=numI_len (n:=e.id) (by omega)
  rw[A (.inr (.inr h))]
  refine bdS (x:=da [db true,db true,db false,db false,db false]) (by rw[h];rfl) (bdS x0 (ct rfl (bdS x1 (bdS (cat_bs (by omega)) (ct rfl (bdS x2 (bdS (cat_bs (by rw[List.length_append];omega)) (cf rfl (cf rfl (cf rfl rfl))))))))))
 ·have x1:=num_refI (n:=e.id) (by omega) (by omega)
  have y1:=numI_len (n:=e.id) (by omega)
  have hL:evL e=numI e.kind++numI e.id:=by
   have:partsL e=[.iface 249 (di e.id)]:=by unfold partsL;simp[h]
   simp only[evL,this,List.flatMap_cons,List.flatMap_nil,p1,List.append_nil,List.append_assoc]
  rw[hL]
  refine bdS (x:=da [db true,db false,db false,db false,db false]) (by rw[h];rfl) (bdS x0 (ct rfl (bdS x1 (bdS (cat_bs (by omega)) (cf rfl (cf rfl (cf rfl (cf rfl rfl))))))))
 ·have hL:evL e=numI e.kind++numI e.time:=by
   have:partsL e=[.iface 249 (di e.time)]:=by unfold partsL;simp[h]
   simp only[evL,this,List.flatMap_cons,List.flatMap_nil,p1,List.append_nil,List.append_assoc]
  rw[hL]
  refine bdS (x:=da [db false,db false,db true,db false,db false]) (by rw[h];rfl) (bdS x0 (cf rfl (cf rfl (ct rfl (bdS x3 (bdS (cat_bs (by omega)) (cf rfl (cf rfl rfl))))))))
end Go.AM.SY
set_option linter.all false
namespace Go.AM.SY
open Go Go.AM
theorem chunks_step {room:Nat} (hr:1≤room) (o:D) (lg:Int) (l:List UInt8) {a:Nat} (h:a<l.length) :
  chunksOf room o lg (bs (l.drop a))=item lg o (bs ((l.take (min (a+room) l.length)).drop a))::chunksOf room o (lg+1) (bs (l.drop (a+room))):=by
 have hl:(l.drop a).length=l.length-a:=List.length_drop ..
 rw[chunksOf,dif_neg (by rw[bsz,hl];omega),bs_ext,bs_ext,bsz,hl,List.drop_zero,show (l.drop a).take (l.length-a)=l.drop a from List.take_of_length_le (by rw[hl];exact Nat.le_refl _)]
 have e1:(l.drop a).take (min room (l.length-a))=(l.take (min (a+room) l.length)).drop a:=by
  rw[List.drop_take]
  congr 1;omega
 have e2:(l.drop a).drop (min room (l.length-a))=l.drop (a+room):=by
  rw[List.drop_drop]
  by_cases c:a+room≤l.length
  ·congr 1;omega
  ·rw[List.drop_of_length_le (by omega),List.drop_of_length_le (by omega)]
 rw[e1,e2]
theorem chunks_end (room:Nat) (o:D) (lg:Int) (l:List UInt8) {a:Nat} (h:l.length≤a):chunksOf room o lg (bs (l.drop a))=[]:=by
 rw[chunksOf,dif_pos (.inl (by rw[bsz,List.length_drop];omega))]
theorem chunks_ref (l:List UInt8) (hs:l.length≤1000000) (room:Nat) (hr0:8≤room) (hr1:room≤224) (o lg:Int) (h0:0≤lg) (h1:lg≤9007199254740992):∃b,F66.s FUEL (bs l) (room:Int) o lg=some (dl b (chunksOf room (di o) lg (bs l))):=by
 suffices h:∀Post:Option D→Prop,(∀b,Post (some (dl b (chunksOf room (di o) lg (bs l)))))→Post (F66.s FUEL (bs l) (room:Int) o lg) from h (fun R=>∃b,R=some (dl b (chunksOf room (di o) lg (bs l)))) fun b=>⟨b,rfl⟩
 intro Post hPost
 unfold F66.s
 refine goS_rule (fun t:F66.S3=>∃(k:Nat) (b:Bool) (L:List D),t=⟨bs l,(room:Int),o,lg,0,L.length,(k:Int),b,L⟩∧L++chunksOf room (di o) (lg+k) (bs (l.drop (k*room)))=chunksOf room (di o) lg (bs l)∧k*room≤l.length+224∧k≤l.length) (fun t=>l.length-t.i7.toNat) Post ?_ _ _ ⟨0,false,[],rfl,by simp,by omega,by omega⟩ (by simp[FUEL];omega)
 rintro _ rec ⟨k,b,L,rfl,he,hk,hkl⟩ hrec
 simp only[F66.st3]
 have hadd:ad .i64 (k:Int) 1=((k+1:Nat):Int):=by rw[ad64 (by omega) (by omega)];rfl
 have hsucc:(k+1)*room=k*room+room:=by rw[Nat.add_mul,Nat.one_mul]
 have m1:ml .i64 (k:Int) (room:Int)=((k*room:Nat):Int):=by
  rw[ml64 (by rw[←Int.natCast_mul];omega) (by rw[←Int.natCast_mul];omega),Int.natCast_mul]
 have m2:ml .i64 ((k+1:Nat):Int) (room:Int)=(((k+1)*room:Nat):Int):=by
  rw[ml64 (by rw[←Int.natCast_mul];omega) (by rw[←Int.natCast_mul];omega),Int.natCast_mul]
 rw[hadd,m1,m2,hsucc,bsz]
 have hmin:mini ((k*room+room:Nat):Int) (nI l.length)=((min (k*room+room) l.length:Nat):Int):=mini_nat _ _
 rw[hmin]
 have hLlen:=congrArg List.length he
 have hcl:=chunksOf_len room hr0 _ (bs l) (di o) lg (Nat.le_refl _)
 rw[List.length_append] at hLlen
 rw[bsz] at hcl
 by_cases h5:k*room<l.length
 ·have hkk:k<l.length:=by
   have:k*1≤k*room:=Nat.mul_le_mul_left _ (by omega)
   omega
  refine pct (by simp;omega) (pct (by simp;omega) (pct (by simp;omega) ?_))
  rw[ad64 (by omega) (by omega),Int.toNat_natCast,Int.toNat_natCast,bs_ext]
  have htk:((L.drop 0).take L.length)=L:=by rw[List.drop_zero,List.take_length]
  rw[htk]
  rw[chunks_step (by omega) (di o) (lg+k) l h5] at he
  have hap:ap L [da [di (lg+(k:Int)),di o,dS (bs ((l.take (min (k*room+room) l.length)).drop (k*room)))]]=L++[item (lg+(k:Int)) (di o) (bs ((l.take (min (k*room+room) l.length)).drop (k*room)))]:=rfl
  rw[hap]
  refine hrec _ ⟨k+1,b||true,L++[item (lg+(k:Int)) (di o) (bs ((l.take (min (k*room+room) l.length)).drop (k*room)))],?_,?_,by omega,by omega⟩ (by simp;omega)
  ·rw[List.length_append];rfl
  ·rw[List.append_assoc,hsucc]
   have e:lg+((k+1:Nat):Int)=lg+(k:Int)+1:=by omega
   rw[e]
   exact he
 ·refine pcf (by simp;omega) ?_
  rw[chunks_end _ _ _ _ (by omega),List.append_nil] at he
  rw[he]
  exact pct (by simp) (hPost b)
theorem RowIs.apL {n m:Nat} {l L:List D} (h:RowIs n m l L) (X:List D):RowIs 0 (m+X.length) (Go.AM.ap ((l.drop n).take m) X) (L++X):=by
 refine⟨?_,by simp[h.len]⟩
 rw[h.eq,Go.AM.ap,List.drop_zero,List.take_of_length_le (by simp[h.len])]
theorem holds_ref {Post:Option D→Prop} (K:F18.X16→Option D) (f:Fl) (hh:f.holds.length≤4) (hz:∀s∈f.holds,s.size≤1000) (d26:D) (i27 i29:Int) (d31:D) (A:List UInt8) (hA:A.length≤1000000)
  (hK:Post (K (.e0 d26 i27 (dS (bs (A++f.holds.flatMap textL))) i29 d31 f.enc))):Post (goS (F18.st16 FUEL) FUEL ⟨d26,i27,dS (bs A),i29,0,d31,f.enc⟩ K):=by
 have h5:f.enc.at 5=dl f.nn (f.holds.map dS):=rfl
 have hall:=flat_le textL 1008 f.holds fun x hx=>by have:=hz x hx;have:=text_len (s:=x) (by unfold big;omega);omega
 have hmul:f.holds.length*1008≤4*1008:=Nat.mul_le_mul_right _ hh
 refine goS_rule (fun t:F18.S16=>∃k:Nat,t=⟨d26,i27,dS (bs (A++(f.holds.take k).flatMap textL)),i29,(k:Int),d31,f.enc⟩∧k≤f.holds.length) (fun t=>f.holds.length-t.i30.toNat) Post ?_ _ _ ⟨0,by simp,by omega⟩ (by simp[FUEL];omega)
 rintro _ rec ⟨k,rfl,hk⟩ hrec
 simp only[F18.st16]
 rw[h5]
 simp only[elems_slice,List.length_map]
 have htk:=flat_take textL f.holds k
 by_cases h1:k<f.holds.length
 ·have hadd:ad .i64 (k:Int) 1=((k+1:Nat):Int):=by rw[ad64 (by omega) (by omega)];rfl
  have hsz:=hz _ (List.getElem_mem h1)
  have t1:=text_ref f.holds[k] (by omega)
  have t3:=text_len (s:=f.holds[k]) (by unfold big;omega)
  refine pct (by simp;omega) (pct (by simp;omega) ?_)
  simp only[Int.toNat_natCast,ix_map h1]
  refine pbd t1 (pbd (cat_bs (by rw[List.length_append];omega)) ?_)
  rw[hadd,List.append_assoc,←flat_succ textL h1]
  exact hrec _ ⟨k+1,rfl,by omega⟩ (by simp;omega)
 ·refine pcf (by simp;omega) ?_
  have hke:k=f.holds.length:=by omega
  subst hke
  rw[List.take_length]
  exact hK
section
variable {s:St} (hs:StOk s) (nn:Bool) (evs:List Ev) (hev:∀e∈evs,EvW e∧e.name.size≤1048576) (hel:evs.length≤400) (room:Nat) (hr0:8≤room) (hr1:room≤224) {Post:Option D→Prop}
include hs hev hel hr0 hr1
theorem ref_files (K:F18.X30→Option D) (b78:Bool) (l79:List D) (b:Bool) (row L2:List D) (m:Nat) (hw:RowIs 0 m row L2) (hm:m≤5000000)
  (hK:∀(b':Bool) (n' m':Nat) (row':List D),RowIs n' m' row' (L2++filesOf room s.files)→Post (K (.e0 n' m' s.enc b78 l79 b' row'))):Post (goS (F18.st30 FUEL) FUEL ⟨(room:Int),0,m,0,s.enc,b78,l79,b,row⟩ K):=by
 have hl:=hs.len
 have e0:s.enc.at 0=dl s.nn (s.files.map Fl.enc):=rfl
 refine goS_rule (fun t:F18.S30=>∃(k n' m':Nat) (b':Bool) (row':List D),t=⟨(room:Int),n',m',(k:Int),s.enc,b78,l79,b',row'⟩∧k≤s.files.length∧RowIs n' m' row' (L2++filesOf room (s.files.take k))∧m'≤m+k*600) (fun t=>s.files.length-t.i76.toNat) Post ?_ _ _ ⟨0,0,m,b,row,rfl,by omega,by simpa[filesOf] using hw,by omega⟩ (by simp[FUEL];omega)
 rintro _ rec ⟨k,n',m',b',row',rfl,hk,hw',hm'⟩ hrec
 simp only[F18.st30]
 rw[e0]
 simp only[elems_slice,List.length_map]
 have hk6:k*600≤12*600:=Nat.mul_le_mul_right _ (by omega)
 by_cases h1:k<s.files.length
 ·have hadd:ad .i64 (k:Int) 1=((k+1:Nat):Int):=by rw[ad64 (by omega) (by omega)];rfl
  have hf:=hs.files _ (List.getElem_mem h1)
  have hlast:=hs.last1
  have hi0:=hf.id0
  have hi1:=hf.id1
  have hda:=hf.data
  refine pct (by simp;omega) (pct (by simp;omega) ?_)
  simp only[Int.toNat_natCast,ix_map h1]
  rw[show (s.files[k].enc.at 2).s=s.files[k].data from rfl,show (s.files[k].enc.at 0).i=s.files[k].id from rfl,ml64 (by omega) (by omega)]
  obtain⟨b2,hc⟩:=chunks_ref s.files[k].data.data.toList (by rw[toList_size];omega) room hr0 hr1 s.files[k].id (4096*s.files[k].id) (by omega) (by omega)
  rw[bs_of] at hc
  have hcl:=chunksOf_len room hr0 _ s.files[k].data (di s.files[k].id) (4096*s.files[k].id) (Nat.le_refl _)
  refine pbd hc ?_
  have hcur:∀C:List D,((dl b2 C).elems.drop 0).take (dl b2 C).elems.length=C:=by
   intro C
   simp only[elems_slice,List.drop_zero,List.take_length]
  rw[hcur]
  refine pct (by simp;omega) ?_
  rw[hadd]
  refine hrec _ ⟨k+1,0,_,_,_,rfl,by omega,?_,by rw[Nat.add_mul];omega⟩ (by simp;omega)
  rw[filesOf_succ h1,←List.append_assoc]
  exact hw'.apL _
 ·refine pcf (by simp;omega) ?_
  have hke:k=s.files.length:=by omega
  subst hke
  rw[List.take_length] at hw'
  exact hK b' n' m' row' hw'
theorem ref_log (K:F18.X22→Option D) (n m:Nat) (b:Bool) (row:List D) (hb:(∃e∈evs,evB e=false)→∀d,Post (K (.e0 (room:Int) n m d s.enc b row)))
  (hK:(∀e∈evs,evB e=true)→Post (K (.e1 (room:Int) n m (dS (bs (logL evs))) s.enc b row))):Post (goS (F18.st22 FUEL) FUEL ⟨dl nn (evs.map Ev.enc),(room:Int),n,m,dS (bs []),0,s.enc,b,row⟩ K):=by
 have hall:(∀j (h:j<evs.length),evB evs[j]=true)→∀e∈evs,evB e=true:=by
  intro h e he
  obtain⟨i,hi,rfl⟩:=List.getElem_of_mem he
  exact h i hi
 have hls:=logL_le evs fun e h=>(hev e h).1
 have hmul2:evs.length*4208≤400*4208:=Nat.mul_le_mul_right _ hel
 refine goS_rule (fun t:F18.S22=>∃(k:Nat),t=⟨dl nn (evs.map Ev.enc),(room:Int),n,m,dS (bs (logL (evs.take k))),(k:Int),s.enc,b,row⟩∧k≤evs.length∧(∀j (h:j<evs.length),j<k→evB evs[j]=true)) (fun t=>evs.length-t.i65.toNat) Post ?_ _ _ ⟨0,rfl,by omega,by omega⟩ (by simp[FUEL];omega)
 rintro _ rec ⟨k,rfl,hk,hgd⟩ hrec
 simp only[F18.st22]
 simp only[elems_slice,List.length_map]
 have hlt:=logL_take evs k
 by_cases h1:k<evs.length
 ·have hadd:ad .i64 (k:Int) 1=((k+1:Nat):Int):=by rw[ad64 (by omega) (by omega)];rfl
  obtain⟨he,hn⟩:=hev _ (List.getElem_mem h1)
  refine pct (by simp;omega) (pct (by simp;omega) ?_)
  simp only[Int.toNat_natCast,ix_map h1]
  cases hv:evB evs[k] with
  | false=>exact pbd (eput_bad hn he.sum hv) (pct rfl (hb ⟨_,List.getElem_mem h1,hv⟩ _))
  | true=>
   have hbE:=evBytes_eq he hv
   have hle:=evL_le he hv
   have t1:=text_ref (bs (evL evs[k])) (by rw[bsz];omega)
   have t3:=text_len (s:=bs (evL evs[k])) (by rw[bsz];unfold big;omega)
   rw[bsz] at t3
   refine pbd (eput_ok he hv) (pcf rfl (pbd t1 (pbd (cat_bs (by omega)) ?_)))
   rw[hadd,←hbE,←logL_succ h1]
   refine hrec _ ⟨k+1,rfl,by omega,?_⟩ (by simp;omega)
   intro j h hj
   by_cases hjk:j=k
   ·subst hjk;exact hv
   ·exact hgd j h (by omega)
 ·refine pcf (by simp;omega) ?_
  have hke:k=evs.length:=by omega
  subst hke
  rw[List.take_length]
  exact hK (hall fun j h=>hgd j h h)
end
theorem ref_head {Post:Option D→Prop} {s:St} (hs:StOk s) (d9:D) (room:Int) (n:Int) (hn0:0≤n) (hn1:n≤1000) (K:F18.X6→Option D) (h0:(∃f∈s.files,134217728<f.id)→∀d i,Post (K (.e0 d9 room d i s.enc)))
  (h1:(∀f∈s.files,f.id≤134217728)→Post (K (.e1 d9 room (dS (bs (headL s n))) s.enc))):Post (goS (F18.st6 FUEL) FUEL ⟨d9,room,dS (bs (numI s.last++numI s.floor++numI (s.files.length:Int)++numI n)),0,s.enc⟩ K):=by
 have e0:s.enc.at 0=dl s.nn (s.files.map Fl.enc):=rfl
 have hfl:=hs.len
 have l0:=hs.last0
 have l1:=hs.last1
 have f0:=hs.floor0
 have f1:=hs.floor1
 have hall:=flat_le fileL 6000 s.files fun f hf=>fileL_le (hs.files f hf) l1
 have hmul:s.files.length*6000≤12*6000:=Nat.mul_le_mul_right _ hfl
 have z1:=numI_len (n:=s.last) (by omega)
 have z2:=numI_len (n:=s.floor) (by omega)
 have z3:=numI_len (n:=(s.files.length:Int)) (by omega)
 have z4:=numI_len (n:=n) (by omega)
 obtain⟨B0,hB0⟩:∃B0,B0=numI s.last++numI s.floor++numI (s.files.length:Int)++numI n:=⟨_,rfl⟩
 have hB0l:B0.length≤40:=by rw[hB0];simp only[List.length_append];omega
 have hfin:B0++s.files.flatMap fileL=headL s n:=by rw[hB0];rfl
 rw[←hB0]
 refine goS_rule (fun t:F18.S6=>∃(k:Nat),t=⟨d9,room,dS (bs (B0++(s.files.take k).flatMap fileL)),(k:Int),s.enc⟩∧k≤s.files.length∧∀j (h:j<s.files.length),j<k→s.files[j].id≤134217728) (fun t=>s.files.length-t.i12.toNat) Post ?_ _ _ ⟨0,by simp,by omega,by omega⟩ (by simp[FUEL];omega)
 rintro _ rec ⟨k,rfl,hk,hid⟩ hrec
 simp only[F18.st6]
 rw[e0]
 simp only[elems_slice,List.length_map]
 have hft:=flat_take fileL s.files k
 by_cases h5:k<s.files.length
 ·have hadd:ad .i64 (k:Int) 1=((k+1:Nat):Int):=by rw[ad64 (by omega) (by omega)];rfl
  have hfk:=hs.files _ (List.getElem_mem h5)
  have hsucc:=flat_succ fileL h5
  refine pct (by simp;omega) (pct (by simp;omega) ?_)
  simp only[Int.toNat_natCast,ix_map h5]
  have hmem:=List.getElem_mem h5
  have hidn:s.files[k].id≤134217728→∀j (h:j<s.files.length),j<k+1→s.files[j].id≤134217728:=by
   intro hh j h hj
   by_cases hjk:j=k
   ·subst hjk;exact hh
   ·exact hid j h (by omega)
  obtain⟨f,hfe⟩:∃f,f=s.files[k]:=⟨_,rfl⟩
  rw[←hfe] at hfk hsucc hmem hidn ⊢
  have hid0:=hfk.id0
  have hid1:=hfk.id1
  have w9:=hfk.nsz
  have hu0:=hfk.until0
  have hu1:=hfk.until1
  have hda:=hfk.data
  have hho:=hfk.hold
  have u1:=num_refI (n:=f.id) (by omega) (by omega)
  have u2:=text_ref f.name (by omega)
  have u4:=num_refI (n:=f.until_) hu0 (by omega)
  have u5:=num_refI (n:=(f.data.size:Int)) (by omega) (by omega)
  have u6:=num_refI (n:=(f.holds.length:Int)) (by omega) (by omega)
  have w1:=numI_len (n:=f.id) (by omega)
  have w2:=text_len (s:=f.name) (by unfold big;omega)
  have w4:=numI_len (n:=f.until_) (by omega)
  have w5:=numI_len (n:=(f.data.size:Int)) (by omega)
  have w6:=numI_len (n:=(f.holds.length:Int)) (by omega)
  have q0:(f.enc.at 0).i=f.id:=rfl
  have q1:(f.enc.at 1).s=f.name:=rfl
  have q2:(f.enc.at 2).s=f.data:=rfl
  have q3:(f.enc.at 3).b=f.sealed:=rfl
  have q4:(f.enc.at 4).i=f.until_:=rfl
  have q5:f.enc.at 5=dl f.nn (f.holds.map dS):=rfl
  rw[q0,q1,q2,q3,q4,q5]
  simp only[elems_slice,List.length_map]
  by_cases c4:134217728<f.id
  ·exact pct (by simpa using c4) (h0 ⟨f,hmem,c4⟩ _ _)
  refine pcf (by simp;omega) ?_
  cases hse:f.sealed with
  | true=>
   have u3:=num_refI (n:=1) (by omega) (by omega)
   have w3:=numI_len (n:=1) (by omega)
   refine pct rfl (pbd u1 (pbd (cat_bs (by simp only[List.length_append];omega)) (pbd u2 (pbd (cat_bs (by simp only[List.length_append];omega)) (pbd u3 (pbd (cat_bs (by simp only[List.length_append];omega)) (pbd u4 (pbd (cat_bs (by simp only[List.length_append];omega)) (pbd u5 (pbd (cat_bs (by simp only[List.length_append];omega)) (pbd u6 (pbd (cat_bs (by simp only[List.length_append];omega)) ?_))))))))))))
   refine holds_ref _ f hho hfk.hsz _ _ _ _ _ (by simp only[List.length_append];omega) ?_
   refine hrec _ ⟨k+1,?_,by omega,hidn (by omega)⟩ (by rw[hadd];simp;omega)
   rw[hadd,hsucc]
   simp only[fileL,hse,if_true,List.append_assoc]
  | false=>
   have u3:=num_refI (n:=0) (by omega) (by omega)
   have w3:=numI_len (n:=0) (by omega)
   refine pcf rfl (pbd u1 (pbd (cat_bs (by simp only[List.length_append];omega)) (pbd u2 (pbd (cat_bs (by simp only[List.length_append];omega)) (pbd u3 (pbd (cat_bs (by simp only[List.length_append];omega)) (pbd u4 (pbd (cat_bs (by simp only[List.length_append];omega)) (pbd u5 (pbd (cat_bs (by simp only[List.length_append];omega)) (pbd u6 (pbd (cat_bs (by simp only[List.length_append];omega)) ?_))))))))))))
   refine holds_ref _ f hho hfk.hsz _ _ _ _ _ (by simp only[List.length_append];omega) ?_
   refine hrec _ ⟨k+1,?_,by omega,hidn (by omega)⟩ (by rw[hadd];simp;omega)
   rw[hadd,hsucc]
   have hfa:¬(false=true):=by simp
   simp only[fileL,hse,if_neg hfa,List.append_assoc]
 ·refine pcf (by simp;omega) ?_
  have hke:k=s.files.length:=by omega
  subst hke
  rw[List.take_length,hfin]
  refine h1 fun f hf=>?_
  obtain⟨i,hi,rfl⟩:=List.getElem_of_mem hf
  exact hid i hi hi
theorem ref_put {s:St} (hs:LitS s) (nn:Bool) (evs:List Ev) (hev:∀e∈evs,EvW e∧e.name.size≤1048576) (room:Int) {Post:Option D→Prop}
  (h0:¬(VS s∧Putt s evs room)→Post (some (.tup [dl false [],db false])))
  (h1:VS s→Putt s evs room→∀(b:Bool),Post (some (.tup [dl b (itemsOf room.toNat s (bs (headL s (nI evs.length))) (bs (logL evs))),db true]))) :
  Post (F18.s FUEL s.enc (dl nn (evs.map Ev.enc)) room):=by
 unfold F18.s
 rcases state_ref hs with ⟨v,e⟩ | ⟨v,e⟩
 case inr=>exact pbd e (pct rfl (h0 fun p=>v p.1))
 refine pbd e (pcf rfl ?_)
 have hst:=vs_ok hs v
 by_cases c1:room<8
 ·exact pct (by simpa using c1) (h0 fun p=>by have:=p.2.r0;omega)
 refine pcf (by simp;omega) ?_
 by_cases c2:224<room
 ·exact pct (by simpa using c2) (h0 fun p=>by have:=p.2.r1;omega)
 refine pcf (by simp;omega) ?_
 simp only[elems_slice,List.length_map]
 by_cases c3:400<evs.length
 ·exact pct (by simp;omega) (h0 fun p=>by have:=p.2.len;omega)
 refine pcf (by simp;omega) ?_
 have hla:(s.enc.at 1).i=s.last:=rfl
 have hfl:(s.enc.at 2).i=s.floor:=rfl
 have e0:s.enc.at 0=dl s.nn (s.files.map Fl.enc):=rfl
 have hl:=hst.len
 have l0:=hst.last0
 have l1:=hst.last1
 have f0:=hst.floor0
 have f1:=hst.floor1
 have x1:=num_refI (n:=s.last) l0 (by omega)
 have x2:=num_refI (n:=s.floor) f0 (by omega)
 have x3:=num_refI (n:=(s.files.length:Int)) (by omega) (by omega)
 have x4:=num_refI (n:=(evs.length:Int)) (by omega) (by omega)
 have z1:=numI_len (n:=s.last) (by omega)
 have z2:=numI_len (n:=s.floor) (by omega)
 have z3:=numI_len (n:=(s.files.length:Int)) (by omega)
 have z4:=numI_len (n:=(evs.length:Int)) (by omega)
 rw[hla,hfl,e0]
 simp only[elems_slice,List.length_map]
 refine pbd x1 (pbd x2 (pbd (cat_bs (by omega)) (pbd x3 (pbd (cat_bs (by simp only[List.length_append];omega)) (pbd x4 (pbd (cat_bs (by simp only[List.length_append];omega)) ?_))))))
 obtain⟨r,hr⟩:∃r:Nat,room=(r:Int):=⟨room.toNat,by omega⟩
 subst hr
 have hrr:((r:Nat):Int).toNat=r:=by omega
 rw[hrr] at h1
 have hr0:8≤r:=by omega
 have hr1:r≤224:=by omega
 refine ref_head hst _ (r:Int) (nI evs.length) (by simp) (by simp;omega) _ ?_ ?_
 ·rintro⟨f,hf,hlt⟩ d i
  exact h0 fun p=>by have:=p.2.ids f hf;omega
 intro hids
 have hhl:=headL_le hst (nI evs.length) (by simp;omega)
 obtain⟨b1,g1⟩:=chunks_ref (headL s (nI evs.length)) (by omega) r hr0 hr1 0 0 (by omega) (by omega)
 refine pbd g1 ?_
 simp only[elems_slice]
 obtain⟨C1,hC1⟩:∃C1,C1=chunksOf r (di 0) 0 (bs (headL s (nI evs.length))):=⟨_,rfl⟩
 have hC1l:=chunksOf_len r hr0 _ (bs (headL s (nI evs.length))) (di 0) 0 (Nat.le_refl _)
 rw[←hC1,bsz] at hC1l
 rw[←hC1]
 refine ref_log hst nn evs hev (by omega) r hr0 hr1 _ 0 C1.length _ C1 ?_ ?_
 ·rintro⟨e,he,hv⟩ d
  exact h0 fun p=>by have:=p.2.good e he;rw[hv] at this;simp at this
 intro hg
 have hll:(logL evs).length≤evs.length*608:=flat_le _ 608 evs fun e h=>by
  have h1:=evBytes_eq (hev e h).1 (hg e h)
  have h2:=evL_le (hev e h).1 (hg e h)
  have h3:(evBytes e).size≤600:=by rw[h1,bsz];exact h2
  have h4:=text_len (s:=evBytes e) (by unfold big;omega)
  omega
 have hmul2:evs.length*608≤400*608:=Nat.mul_le_mul_right _ (by omega)
 obtain⟨b2,g2⟩:=chunks_ref (logL evs) (by omega) r hr0 hr1 0 1000 (by omega) (by omega)
 refine pbd g2 ?_
 obtain⟨C2,hC2⟩:∃C2,C2=chunksOf r (di 0) 1000 (bs (logL evs)):=⟨_,rfl⟩
 have hC2l:=chunksOf_len r hr0 _ (bs (logL evs)) (di 0) 1000 (Nat.le_refl _)
 rw[←hC2,bsz] at hC2l
 rw[←hC2]
 have hcur:((dl b2 C2).elems.drop 0).take (dl b2 C2).elems.length=C2:=by
  simp only[elems_slice,List.drop_zero,List.take_length]
 rw[hcur]
 refine pct (by simp;omega) ?_
 have hw0:RowIs 0 C1.length C1 C1:=⟨by rw[List.drop_zero,List.take_length],rfl⟩
 refine ref_files hst evs hev (by omega) r hr0 hr1 _ _ _ _ _ (C1++C2) _ (hw0.apL C2) (by omega) ?_
 intro b3 n3 m3 row3 hw3
 have hitems:itemsOf r s (bs (headL s (nI evs.length))) (bs (logL evs))=C1++C2++filesOf r s.files:=by rw[hC1,hC2];rfl
 have hm3:=hw3.len
 rw[←hitems] at hm3
 by_cases c4:400<m3
 ·exact pct (by simp;omega) (h0 fun p=>by have:=p.2.items;rw[hrr] at this;omega)
 ·refine pcf (by simp;omega) ?_
  rw[hw3.eq,←hitems]
  exact h1 v ⟨by omega,by omega,by omega,hids,hg,by rw[hrr];omega⟩ b3
end Go.AM.SY
set_option linter.all false
namespace Go.AM.SY
open Go Go.AM
def SumOk (e:Ev):Prop:=∀x∈e.sum,0≤x∧x≤255
end Go.AM.SY
namespace Go.AM.SY
open Go Go.AM
def itEq (x y:It):Bool:=x.lg==y.lg&&(x.own.i==y.own.i&&x.tx==y.tx)
theorem eqv_item {x y:It} (hx:x.own=di x.own.i) (hy:y.own=di y.own.i):D.eqv ty eqDepth x.enc y.enc (.struct [3,3,9])=some (itEq x y):=by
 obtain⟨a,o,t⟩:=x
 obtain⟨b,p,u⟩:=y
 simp only at hx hy
 have hk:List.map ty [3,3,9]=[.int .i64,.int .i64,.str]:=rfl
 have e1:∀x y:Int,D.eqv ty 15 (.int .i64 x) (.int .i64 y) (.int .i64)=some (x==y):=fun _ _=>rfl
 have e2:∀x y:ByteArray,D.eqv ty 15 (.str x) (.str y) .str=some (x==y):=fun _ _=>rfl
 rw[hx,hy]
 have e0:D.eqv ty eqDepth (It.enc ⟨a,di o.i,t⟩) (It.enc ⟨b,di p.i,u⟩) (.struct [3,3,9])=eqvs (D.eqv ty 15) [di a,di o.i,dS t] [di b,di p.i,dS u] (List.map ty [3,3,9]):=rfl
 rw[e0,hk]
 simp only[eqvs,e1,e2,itEq,i_int]
 cases a==b
 ·rfl
 cases o.i==p.i
 ·rfl
 cases t==u<;>rfl
end Go.AM.SY
set_option linter.all false
namespace Go.AM.SY
open Go Go.AM
end Go.AM.SY
set_option linter.all false
namespace Go.AM.SY
open Go Go.AM
end Go.AM.SY
set_option linter.all false
namespace Go.AM.SY
open Go Go.AM
end Go.AM.SY
namespace Go.AM.SY
open Go Go.AM
theorem Row.rise {room:Nat} {l:List It} (h:Row room l):∀(d i:Nat) (hj:i+d+1<l.length),l[i].lg<l[i+d+1].lg
 | 0,i,hj=>(h.next i hj).1
 | d+1,i,hj=>by
  have h1:=Row.rise h d i (by omega)
  have h2:=(h.next (i+d+1) (by omega)).1
  have e:i+(d+1)+1=i+d+1+1:=by omega
  simp only[e]
  omega
theorem Row.one {room:Nat} {l:List It} (h:Row room l) {x y:It} (hx:x∈l) (hy:y∈l) (he:x.lg=y.lg):x=y:=by
 obtain⟨i,hi,rfl⟩:=List.getElem_of_mem hx
 obtain⟨j,hj,rfl⟩:=List.getElem_of_mem hy
 rcases Nat.lt_trichotomy i j with h1 | h1 | h1
 ·have:=h.rise (j-i-1) i (by omega)
  have e:i+(j-i-1)+1=j:=by omega
  simp only[e] at this
  omega
 ·subst h1;rfl
 ·have:=h.rise (i-j-1) j (by omega)
  have e:j+(i-j-1)+1=i:=by omega
  simp only[e] at this
  omega
theorem itEq_self (x:It):itEq x x=true:=by simp[itEq]
section
variable {room:Nat} (hr:8≤room) {s t:St} (hs:StOk s) {i:Nat} (hi:i<s.files.length) {f':Fl} (ht:t.files=s.files.set i f') (hid:f'.id=s.files[i].id) (hda:s.files[i].data.size<f'.data.size)
 {hd hd' lg lg':ByteArray} (hh:hd.size≤hd'.size) (hg:lg.size≤lg'.size)
include hr hi ht hid hda hh hg
omit hid hda hh hg in
end
end Go.AM.SY
namespace Go.AM.SY
open Go Go.AM
theorem works_ok:F15.s FUEL=some (.bool true):=by kernel_rfl
end Go.AM.SY
namespace Go.AM.SY
open Go Go.AM
end Go.AM.SY
namespace Go.AM.SY
open Go Go.AM
def dropT (l:List It) (g:Int):List It:=l.filter fun x=>decide (x.lg≠g)
def setF:List It→It→List It
 | [],x=>[x]
 | a::l,x=>if x.lg≤a.lg then x::dropT (a::l) x.lg else a::setF l x
theorem ofi_spec (b:Bool) (L:List It) (hl:L.length≤100000):∃b',F21.s FUEL (dl b (L.map It.enc))=some (dl b' (L.map It.enc)):=by
 suffices h:∀Post:Option D→Prop,(∀b,Post (some (dl b (L.map It.enc))))→Post (F21.s FUEL (dl b (L.map It.enc))) from h (fun o=>∃b,o=some (dl b (L.map It.enc))) fun b=>⟨b,rfl⟩
 intro Post hPost
 unfold F21.s
 refine goS_rule (fun t:F21.S3=>∃(k:Nat) (b1:Bool),t=⟨dl b (L.map It.enc),0,k,(k:Int),b1,(L.take k).map It.enc⟩∧k≤L.length) (fun t=>L.length-t.i4.toNat) Post ?_ _ _ ⟨0,false,rfl,by omega⟩ (by simp[FUEL];omega)
 rintro _ rec ⟨k,b1,rfl,hk⟩ hrec
 simp only[F21.st3]
 by_cases h1:k<L.length
 ·have hadd:ad .i64 (k:Int) 1=((k+1:Nat):Int):=by rw[ad64 (by omega) (by omega)];rfl
  refine pct (by simp;omega) (pct (by simp;omega) (pct (by simp;omega) (pct (by simp;omega) (pct (by simp;omega) ?_))))
  simp only[elems_slice,Int.toNat_natCast,ix_map h1]
  refine hrec _ ⟨k+1,b1||true,?_,by omega⟩ (by rw[hadd];simp;omega)
  rw[F21.S3.mk.injEq]
  refine⟨rfl,rfl,rfl,hadd,rfl,?_⟩
  rw[List.take_succ_eq_append_getElem h1,List.map_append,List.drop_zero,List.take_of_length_le (by simp;omega),ap]
  rfl
 ·refine pcf (by simp;omega) ?_
  have hke:k=L.length:=by omega
  subst hke
  rw[List.take_length]
  exact pct (by simp) (hPost _)
def rest (p:Bool) (l:List It) (x:It):List It:=if p=true then dropT l x.lg else setF l x
end Go.AM.SY
set_option linter.all false
namespace Go.AM.SY
open Go Go.AM
structure WfF (f:Fl):Prop where
 nil:f.nn=false→f.holds=[]
structure WfS (s:St):Prop where
 nil:s.nn=false→s.files=[]
 files:∀f∈s.files,WfF f
theorem few_file (f:Fl):F51.s FUEL f.enc=some (db false)∨(F51.s FUEL f.enc=some (db true)∧f.name.size≤200∧(∀s∈f.holds,s.size≤200)):=by
 unfold F51.s
 have e5:f.enc.at 5=dl f.nn (f.holds.map dS):=rfl
 have e2:(f.enc.at 2).s=f.data:=rfl
 have e1:(f.enc.at 1).s=f.name:=rfl
 refine goS_rule (fun t:F51.S2=>∃k:Nat,t=⟨(k:Int),f.enc⟩∧k≤201∧∀i (h:i<f.holds.length),i<k→f.holds[i].size≤200) (fun t=>201-t.i1.toNat) (fun o=>o=some (db false)∨(o=some (db true)∧f.name.size≤200∧(∀s∈f.holds,s.size≤200))) ?_ _ _ ⟨0,rfl,by omega,by omega⟩ (by simp[FUEL])
 rintro _ rec ⟨k,rfl,hk,hs⟩ hrec
 simp only[F51.st2]
 rw[e5,e2,e1]
 simp only[elems_slice,List.length_map]
 have fin:(200<k∨f.holds.length≤k)→(fun o=>o=some (db false)∨(o=some (db true)∧f.name.size≤200∧(∀s∈f.holds,s.size≤200))) (cond (leI (nI f.holds.length) 200) (cond (leI (nI f.data.size) 2000) (some (db (leI (nI f.name.size) 200))) (some (db false))) (some (db false))):=by
  intro hkk
  by_cases h1:f.holds.length≤200
  ·refine pct (Post:=fun o=>o=some (db false)∨(o=some (db true)∧f.name.size≤200∧(∀s∈f.holds,s.size≤200))) (by simp;omega) ?_
   by_cases h2:f.data.size≤2000
   ·refine pct (Post:=fun o=>o=some (db false)∨(o=some (db true)∧f.name.size≤200∧(∀s∈f.holds,s.size≤200))) (by simp;omega) ?_
    by_cases h3:f.name.size≤200
    ·refine .inr ⟨by have:leI (nI f.name.size) 200=true:=by { simp;omega }
                     rw[this],h3,?_⟩
     intro s hx
     obtain⟨i,hi,rfl⟩:=List.getElem_of_mem hx
     exact hs i hi (by omega)
    ·exact .inl (by have:leI (nI f.name.size) 200=false:=by { simp;omega }
                    rw[this])
   ·exact pcf (Post:=fun o=>o=some (db false)∨(o=some (db true)∧f.name.size≤200∧(∀s∈f.holds,s.size≤200))) (by simp;omega) (.inl rfl)
  ·exact pcf (Post:=fun o=>o=some (db false)∨(o=some (db true)∧f.name.size≤200∧(∀s∈f.holds,s.size≤200))) (by simp;omega) (.inl rfl)
 by_cases h1:k<f.holds.length
 ·refine pct (Post:=fun o=>o=some (db false)∨(o=some (db true)∧f.name.size≤200∧(∀s∈f.holds,s.size≤200))) (by simp;omega) ?_
  by_cases h2:k≤200
  ·refine pct (Post:=fun o=>o=some (db false)∨(o=some (db true)∧f.name.size≤200∧(∀s∈f.holds,s.size≤200))) (by simp;omega) (pct (Post:=fun o=>o=some (db false)∨(o=some (db true)∧f.name.size≤200∧(∀s∈f.holds,s.size≤200))) (by simp;omega) ?_)
   simp only[Int.toNat_natCast,ix_map h1]
   by_cases h3:f.holds[k].size≤200
   ·refine pcf (Post:=fun o=>o=some (db false)∨(o=some (db true)∧f.name.size≤200∧(∀s∈f.holds,s.size≤200))) (by simp;omega) ?_
    have hadd:ad .i64 (k:Int) 1=((k+1:Nat):Int):=by rw[ad64 (by omega) (by omega)];rfl
    rw[hadd]
    refine hrec _ ⟨k+1,rfl,by omega,?_⟩ (by simp;omega)
    intro i hi hik
    by_cases hik':i=k
    ·subst hik';exact h3
    ·exact hs i hi (by omega)
   ·exact pct (Post:=fun o=>o=some (db false)∨(o=some (db true)∧f.name.size≤200∧(∀s∈f.holds,s.size≤200))) (by simp;omega) (.inl rfl)
  ·exact pcf (Post:=fun o=>o=some (db false)∨(o=some (db true)∧f.name.size≤200∧(∀s∈f.holds,s.size≤200))) (by simp;omega) (fin (.inl (by omega)))
 ·exact pcf (Post:=fun o=>o=some (db false)∨(o=some (db true)∧f.name.size≤200∧(∀s∈f.holds,s.size≤200))) (by simp;omega) (fin (.inr (by omega)))
theorem few_state {s:St} (hw:WfS s):F16.s FUEL s.enc=some (db false)∨(F16.s FUEL s.enc=some (db true)∧LitS s):=by
 suffices h:∀Post:Option D→Prop,Post (some (db false))→(LitS s→Post (some (db true)))→Post (F16.s FUEL s.enc) from
  h (fun o=>o=some (db false)∨(o=some (db true)∧LitS s)) (.inl rfl) (fun h=>.inr ⟨rfl,h⟩)
 intro Post hF hT
 unfold F16.s
 have e0:s.enc.at 0=dl s.nn (s.files.map Fl.enc):=rfl
 refine goS_rule (fun t:F16.S2=>∃k:Nat,t=⟨(k:Int),s.enc⟩∧k≤21∧∀i (h:i<s.files.length),i<k→LitF s.files[i]) (fun t=>21-t.i1.toNat) Post ?_ _ _ ⟨0,rfl,by omega,by omega⟩ (by simp[FUEL])
 rintro _ rec ⟨k,rfl,hk,hs⟩ hrec
 simp only[F16.st2]
 rw[e0]
 simp only[elems_slice,List.length_map]
 have fin:(20<k∨s.files.length≤k)→Post (some (db (leI (nI s.files.length) 20))):=by
  intro hkk
  by_cases h1:s.files.length≤20
  ·have e:leI (nI s.files.length) 20=true:=by simp;omega
   rw[e]
   refine hT ⟨by omega,hw.nil,fun f hf=>?_⟩
   obtain⟨i,hi,rfl⟩:=List.getElem_of_mem hf
   exact hs i hi (by omega)
  ·have e:leI (nI s.files.length) 20=false:=by simp;omega
   rw[e];exact hF
 by_cases h1:k<s.files.length
 ·refine pct (by simp;omega) ?_
  by_cases h2:k≤20
  ·refine pct (by simp;omega) (pct (by simp;omega) ?_)
   simp only[Int.toNat_natCast,ix_map h1]
   rcases few_file s.files[k] with e | ⟨e,q1,q2⟩
   ·exact pbd e (pct rfl hF)
   ·refine pbd e (pcf rfl ?_)
    have hadd:ad .i64 (k:Int) 1=((k+1:Nat):Int):=by rw[ad64 (by omega) (by omega)];rfl
    rw[hadd]
    refine hrec _ ⟨k+1,rfl,by omega,?_⟩ (by simp;omega)
    intro i hi hik
    by_cases hik':i=k
    ·subst hik'
     exact⟨by omega,fun x hx=>by have:=q2 x hx;omega,(hw.files _ (List.getElem_mem h1)).nil⟩
    ·exact hs i hi (by omega)
  ·exact pcf (by simp;omega) (fin (.inl (by omega)))
 ·exact pcf (by simp;omega) (fin (.inr (by omega)))
end Go.AM.SY
set_option linter.all false
namespace Go.AM.SY
open Go Go.AM
theorem ev_wf {e:Ev} (hw:D.wf e.enc):e.name.size≤9223372036854775807∧SumOk e:=by
 unfold Ev.enc at hw
 rw[D.wf] at hw
 simp only[D.wfs] at hw
 refine⟨by have:=hw.2.2.1;rw[D.wf] at this;exact this,fun x hx=>?_⟩
 have h:=hw.2.2.2.2.2.1
 unfold sumD at h
 rw[D.wf] at h
 have:=wfs_mem h (D.int .u8 x) (List.mem_map.2 ⟨x,hx,rfl⟩)
 simp only[D.wf,IntKind.min,IntKind.max,IntKind.signed,IntKind.bits] at this
 simp at this
 omega
theorem evs_of {d:D} (h:D.has ty d (.slice 32)) (hw:D.wf d):∃(nn:Bool) (l:List Ev),d=dl nn (l.map Ev.enc)∧∀e∈l,EvW e∧SumOk e:=by
 obtain⟨nn,ds,rfl,h1,h2⟩:=hass_slice h
 simp only[D.wf] at hw
 obtain⟨l,rfl,_,hl⟩:=hass_rep (f:=Ev.enc) (Q:=fun e:Ev=>EvW e∧SumOk e) (fun d h1 h2=>by
  obtain⟨e,rfl,ho⟩:=ev_of (fs:=[28,3,9,3,3,30]) (e:=5) rfl rfl h1 h2
  exact⟨e,rfl,⟨(ev_wf h2).1,ho.sum⟩,(ev_wf h2).2⟩) h1 (by first | exact hw | exact hw.1 | exact hw.2)
 exact⟨nn,l,rfl,hl⟩
theorem fl_of {d:D} (h:D.has ty d (.struct [3,9,9,4,3,66])):∃f:Fl,d=f.enc∧WfF f:=by
 obtain⟨ds,rfl,hh⟩:=hass_struct h
 clear h
 have hf:List.map ty [3,9,9,4,3,66]=[.int .i64,.str,.str,.bool,.int .i64,.slice 9]:=rfl
 rw[hf] at hh
 obtain⟨d0,_,rfl,h0,hh⟩:=hassC hh
 obtain⟨d1,_,rfl,h1,hh⟩:=hassC hh
 obtain⟨d2,_,rfl,h2,hh⟩:=hassC hh
 obtain⟨d3,_,rfl,h3,hh⟩:=hassC hh
 obtain⟨d4,_,rfl,h4,hh⟩:=hassC hh
 obtain⟨d5,_,rfl,h5,hh⟩:=hassC hh
 obtain rfl:=hass0 hh
 obtain⟨x0,rfl⟩:=has_int h0
 obtain⟨x1,rfl⟩:=has_str h1
 obtain⟨x2,rfl⟩:=has_str h2
 obtain⟨x3,rfl⟩:=has_bool h3
 obtain⟨x4,rfl⟩:=has_int h4
 obtain⟨nn,ds5,rfl,h6,hn⟩:=hass_slice h5
 have h9:ty 9 = .str:=rfl
 rw[h9] at h6
 obtain⟨l,rfl,_⟩:=hass_strs h6
 exact⟨⟨x0,x1,x2,x3,x4,nn,l⟩,rfl,⟨fun h=>by have:=hn h;simpa using this⟩⟩
theorem st_of {d:D} (h:D.has ty d (.struct [22,3,3])) (hw:D.wf d):∃s:St,d=s.enc∧WfS s:=by
 obtain⟨ds,rfl,hh⟩:=hass_struct h
 clear h
 have hf:List.map ty [22,3,3]=[.slice 68,.int .i64,.int .i64]:=rfl
 rw[hf] at hh
 obtain⟨d0,_,rfl,h0,hh⟩:=hassC hh
 obtain⟨d1,_,rfl,h1,hh⟩:=hassC hh
 obtain⟨d2,_,rfl,h2,hh⟩:=hassC hh
 obtain rfl:=hass0 hh
 obtain⟨x1,rfl⟩:=has_int h1
 obtain⟨x2,rfl⟩:=has_int h2
 rw[D.wf] at hw
 simp only[D.wfs] at hw
 obtain⟨nn,ds0,rfl,h3,hn⟩:=hass_slice h0
 have hw0:=hw.1
 simp only[D.wf] at hw0
 obtain⟨l,rfl,_,hl⟩:=hass_rep (f:=Fl.enc) (Q:=fun f:Fl=>WfF f) (fun d h1 _=>fl_of h1) h3 (by first | exact hw0 | exact hw0.1 | exact hw0.2)
 exact⟨⟨nn,l,x1,x2⟩,rfl,fun h=>by have:=hn h;simpa using this,hl⟩
end Go.AM.SY
namespace Go.AM.SY
open Go Go.AM
theorem row_same (b1 b2:Bool) (L:List It) (hl:L.length≤100000) (ho:∀x∈L,x.own=di x.own.i):F20.s FUEL (dl b1 (L.map It.enc)) (dl b2 (L.map It.enc))=some (db true):=by
 unfold F20.s
 refine cf (by simp) ?_
 refine goS_rule (fun t:F20.S4=>∃k:Nat,t=⟨dl b1 (L.map It.enc),dl b2 (L.map It.enc),(k:Int)⟩∧k≤L.length) (fun t=>L.length-t.i3.toNat) (fun o=>o=some (db true)) ?_ _ _ ⟨0,rfl,by omega⟩ (by simp[FUEL];omega)
 rintro _ rec ⟨k,rfl,hk⟩ hrec
 simp only[F20.st4]
 by_cases h1:k<L.length
 ·have hadd:ad .i64 (k:Int) 1=((k+1:Nat):Int):=by rw[ad64 (by omega) (by omega)];rfl
  refine ct (by simp;omega) (ct (by simp;omega) (ct (by simp;omega) ?_))
  simp only[elems_slice,Int.toNat_natCast,ix_map h1]
  have hm:=ho _ (List.getElem_mem h1)
  rw[eqv_item hm hm,itEq_self]
  refine bdS rfl (cf rfl (hrec _ ⟨k+1,by rw[hadd],by omega⟩ ?_))
  rw[hadd];simp;omega
 ·exact cf (by simp;omega) rfl
end Go.AM.SY
