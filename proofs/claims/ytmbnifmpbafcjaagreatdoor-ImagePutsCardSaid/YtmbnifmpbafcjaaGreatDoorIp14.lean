/- Part 14 of the proof: the abstract machine, what the functions compute, and plain laws over that. -/
import Derived.Test.YtmbnifmpbafcjaaGreatDoorIp13
set_option linter.all false
set_option linter.unusedSimpArgs false
set_option linter.unusedVariables false
set_option linter.unusedSectionVars false
set_option linter.all false
namespace Go.AM.SY
open Go Go.AM
theorem both {s:St} (hs:LitS s) (nn:Bool) (evs:List Ev) (hev:∀e∈evs,EvW e∧e.name.size≤1048576) (room:Int) :
  ∃(b1 b2 ok:Bool) (L:List It),L.length≤400∧(∀x∈L,x.own=di x.own.i)∧F17.s FUEL s.enc (dl nn (evs.map Ev.enc)) room=some (.tup [dl b1 (L.map It.enc),db ok])∧F18.s FUEL s.enc (dl nn (evs.map Ev.enc)) room=some (.tup [dl b2 (L.map It.enc),db ok]):=by
 by_cases c:VS s∧Putt s evs room
 ·obtain⟨v,p⟩:=c
  have hr:8≤room.toNat:=by have:=p.r0;omega
  have hlen:=p.items
  rw[itemsOf_eq,List.length_map] at hlen
  have h1:∃b,F17.s FUEL s.enc (dl nn (evs.map Ev.enc)) room=some (.tup [dl b ((itemsT room.toNat s (bs (headL s (nI evs.length))) (bs (logL evs))).map It.enc),db true]):=by
   refine put_tells (Post:=fun o=>∃b,o=some (.tup [dl b ((itemsT room.toNat s (bs (headL s (nI evs.length))) (bs (logL evs))).map It.enc),db true])) hs nn evs (fun e h=>(hev e h).1) room (fun h=>absurd ⟨v,p⟩ h) (fun _ _ b=>⟨b,?_⟩)
   rw[itemsOf_eq]
  have h2:∃b,F18.s FUEL s.enc (dl nn (evs.map Ev.enc)) room=some (.tup [dl b ((itemsT room.toNat s (bs (headL s (nI evs.length))) (bs (logL evs))).map It.enc),db true]):=by
   refine ref_put (Post:=fun o=>∃b,o=some (.tup [dl b ((itemsT room.toNat s (bs (headL s (nI evs.length))) (bs (logL evs))).map It.enc),db true])) hs nn evs hev room (fun h=>absurd ⟨v,p⟩ h) (fun _ _ b=>⟨b,?_⟩)
   rw[itemsOf_eq]
  obtain⟨b1,h1⟩:=h1
  obtain⟨b2,h2⟩:=h2
  refine⟨b1,b2,true,_,hlen,?_,h1,h2⟩
  have own_ch:∀(n:Int) (lg:Int) (t:ByteArray),∀x∈chT room.toNat (di n) lg t,x.own=di x.own.i:=by
   intro n lg t x hx
   have:=(ch_range hr (di n) lg t x hx).2.2
   rw[this];rfl
  have own_files:∀(l:List Fl),∀x∈filesT room.toNat l,x.own=di x.own.i:=by
   intro l
   induction l with
   | nil=>intro x hx;simp[filesT] at hx
   | cons f l ih=>
    intro x hx
    have e:filesT room.toNat (f::l)=chT room.toNat (di f.id) (4096*f.id) f.data++filesT room.toNat l:=rfl
    rw[e] at hx
    rcases List.mem_append.1 hx with hx | hx
    ·exact own_ch _ _ _ x hx
    ·exact ih x hx
  intro x hx
  unfold itemsT at hx
  rcases List.mem_append.1 hx with hx | hx
  ·rcases List.mem_append.1 hx with hx | hx
   ·exact own_ch _ _ _ x hx
   ·exact own_ch _ _ _ x hx
  ·exact own_files _ x hx
 ·have h1:F17.s FUEL s.enc (dl nn (evs.map Ev.enc)) room=some (.tup [dl false [],db false]):=
   put_tells (Post:=fun o=>o=some (.tup [dl false [],db false])) hs nn evs (fun e h=>(hev e h).1) room (fun _=>rfl) (fun v p _=>absurd ⟨v,p⟩ c)
  have h2:F18.s FUEL s.enc (dl nn (evs.map Ev.enc)) room=some (.tup [dl false [],db false]):=
   ref_put (Post:=fun o=>o=some (.tup [dl false [],db false])) hs nn evs hev room (fun _=>rfl) (fun v p _=>absurd ⟨v,p⟩ c)
  exact⟨false,false,false,[],by simp,by simp,h1,h2⟩
theorem puts_run {s:St} (hw:WfS s) (n1:Bool) (evs:List Ev) (hev:∀e∈evs,EvW e∧SumOk e) (room:Int):F3.s FUEL s.enc (dl n1 (evs.map Ev.enc)) room=some (db true):=by
 unfold F3.s
 refine bdS works_ok (cf rfl ?_)
 rcases few_state hw with e | ⟨e,hs⟩
 ·exact bdS e (ct rfl rfl)
 refine bdS e (cf rfl ?_)
 simp only[elems_slice,List.length_map]
 by_cases c1:60<evs.length
 ·exact ct (by simp;omega) rfl
 refine cf (by simp;omega) ?_
 refine goS_rule (fun t:F3.S8=>∃k:Nat,t=⟨dl n1 (evs.map Ev.enc),room,db true,(k:Int),s.enc⟩∧k≤evs.length∧∀i (h:i<evs.length),i<k→evs[i].name.size≤200) (fun t=>evs.length-t.i6.toNat) (fun o=>o=some (db true)) ?_ _ _ ⟨0,rfl,by omega,by omega⟩ (by simp[FUEL];omega)
 rintro _ rec ⟨k,rfl,hk,hsm⟩ hrec
 simp only[F3.st8]
 simp only[elems_slice,List.length_map]
 by_cases h1:k<evs.length
 ·have hadd:ad .i64 (k:Int) 1=((k+1:Nat):Int):=by rw[ad64 (by omega) (by omega)];rfl
  refine ct (by simp;omega) (ct (by simp;omega) ?_)
  simp only[Int.toNat_natCast,ix_map h1]
  have e2:(evs[k].enc.at 2).s=evs[k].name:=rfl
  rw[e2,hadd]
  by_cases h2:evs[k].name.size≤200
  ·refine cf (by simp;omega) (hrec _ ⟨k+1,rfl,by omega,?_⟩ (by simp;omega))
   intro i hi hik
   by_cases hik':i=k
   ·subst hik';exact h2
   ·exact hsm i hi (by omega)
  ·exact ct (by simp;omega) rfl
 ·refine cf (by simp;omega) ?_
  have hev':∀e∈evs,EvW e∧e.name.size≤1048576:=by
   intro e he
   refine⟨(hev e he).1,?_⟩
   obtain⟨i,hi,rfl⟩:=List.getElem_of_mem he
   have:=hsm i hi (by omega)
   omega
  obtain⟨b1,b2,ok,L,hL,hO,g1,g2⟩:=both hs n1 evs hev' room
  obtain⟨b3,ho⟩:=ofi_spec b1 L (by omega)
  have hq:D.eqv ty eqDepth (.bool ok) (.bool ok) .bool=some true:=by
   have:D.eqv ty (15+1) (.bool ok) (.bool ok) .bool=some (ok==ok):=eqv_bool 15 _ _
   have h2:(ok==ok)=true:=by simp
   rw[h2] at this
   exact this
  have a1:(D.tup [dl b1 (L.map It.enc),db ok]).at 1 = .bool ok:=rfl
  have a2:(D.tup [dl b2 (L.map It.enc),db ok]).at 1 = .bool ok:=rfl
  refine bdS g1 (bdS (x:=s.enc) rfl (bdS g2 (ct rfl ?_)))
  rw[a1,a2,hq]
  refine bdS (x:=db true) rfl (ct rfl (bdS ho ?_))
  have hcur:(((dl b3 (L.map It.enc)).elems.drop 0).take (dl b3 (L.map It.enc)).elems.length)=L.map It.enc:=by
   simp only[elems_slice,List.drop_zero,List.take_length]
  rw[hcur]
  exact bdS (row_same _ _ L (by omega) hO) rfl
theorem pure3:∀ds,D.hass ty ds [(.struct [22,3,3]),(.slice 32),(.int .i64)]→D.wfs ds→F3.c.run ds=some (.bool true):=by
 intro ds h hw
 obtain⟨d0,_,rfl,h0,h⟩:=hassC h
 obtain⟨d1,_,rfl,h1,h⟩:=hassC h
 obtain⟨d2,_,rfl,h2,h⟩:=hassC h
 obtain rfl:=hass0 h
 simp only[D.wfs] at hw
 obtain⟨s,rfl,hs⟩:=st_of h0 hw.1
 obtain⟨n1,l1,rfl,hl1⟩:=evs_of h1 hw.2.1
 obtain⟨n,rfl⟩:=has_int h2
 exact puts_run hs n1 l1 hl1 n
end Go.AM.SY
