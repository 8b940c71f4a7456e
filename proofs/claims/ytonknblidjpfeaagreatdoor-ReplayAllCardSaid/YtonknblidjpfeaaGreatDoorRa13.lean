/- Part 13 of the proof: the abstract machine, what the functions compute, and plain laws over that. -/
import Derived.Test.YtonknblidjpfeaaGreatDoorRa12
set_option linter.all false
set_option linter.unusedSimpArgs false
set_option linter.unusedVariables false
set_option linter.unusedSectionVars false
namespace Go.AM.SZ
open Go Go.AM
theorem bd_some {x:D} {f:D→Option D}:bd (some x) f=f x:=rfl
def w32 (l:List Int):D:=da (l.map (D.int .u32))
theorem w32_set (l:List Int) (i:Nat) (x:Int):D.agg ((w32 l).parts.set i (D.int .u32 x))=w32 (l.set i x):=by
 show D.agg ((l.map (D.int .u32)).set i (D.int .u32 x))=_
 rw[w32,List.map_set]
theorem u64_nonneg (n:Int):0≤IntKind.wrap .u64 n:=by
 simp[IntKind.wrap,IntKind.signed,IntKind.bits];omega
theorem right_spec (x n:Int):∃r,F133.s FUEL x n=some (D.int .u32 r):=by
 have h1:0≤andI .u64 (cv .u64 (sb .i64 0 n)) 31:=u64_nonneg _
 have h2:0≤sb .u64 32 (andI .u64 (cv .u64 (sb .i64 0 n)) 31):=u64_nonneg _
 refine⟨orI .u32 (shlI .u32 x (andI .u64 (cv .u64 (sb .i64 0 n)) 31).toNat) (shrI .u32 x (sb .u64 32 (andI .u64 (cv .u64 (sb .i64 0 n)) 31)).toNat),?_⟩
 unfold F133.s F146.s
 rw[if_neg (by omega),if_neg (by omega)]
 rfl
theorem ml64 {a b:Int} (h1:-9223372036854775808≤a*b) (h2:a*b≤9223372036854775807):ml .i64 a b=a*b:=by
 have:=ad64 (a:=a*b) (b:=0) (by omega) (by omega)
 simpa[ad,ml] using this
theorem words_spec (s:ByteArray) (hs:s.size=64):∃w:List Int,F132.s FUEL s=some (w32 w)∧w.length=64:=by
 unfold F132.s
 refine goS_rule (fun t=>∃(k:Nat) (d3:D) (w:List Int),t=⟨s,(k:Int),d3,w32 w⟩∧k≤64∧w.length=64) (fun t=>64-t.i2.toNat) (fun o=>∃w:List Int,o=some (w32 w)∧w.length=64) ?_ _ _ ⟨0,_,List.replicate 64 0,by rfl,by omega,by simp⟩ (by simp[FUEL])
 rintro _ rec ⟨k,d3,w,rfl,hk,hw⟩ hrec
 simp only[F132.st3]
 by_cases h1:k<64
 ·rw[show cond (ltI (k:Int) 64) _ _=_ from ct (by simp;omega) rfl]
  have hadd:ad .i64 (k:Int) 1=((k+1:Nat):Int):=by rw[ad64 (by omega) (by omega)];rfl
  have fin:∀x:Int,∃w':List Int,rec ⟨s,ad .i64 (k:Int) 1,d3,D.agg ((w32 w).parts.set (Int.toNat (k:Int)) (D.int .u32 x))⟩=some (w32 w')∧w'.length=64:=by
   intro x
   rw[hadd,w32_set]
   exact hrec _ ⟨k+1,d3,_,rfl,by omega,by simpa using hw⟩ (by simp;omega)
  by_cases h2:k<16
  ·have hm:ml .i64 4 (k:Int)=((4*k:Nat):Int):=by rw[ml64 (by omega) (by omega)];omega
   have ha:∀j:Nat,j≤3→ad .i64 ((4*k:Nat):Int) (j:Int)=((4*k+j:Nat):Int):=fun j hj=>by rw[ad64 (by omega) (by omega)];omega
   rw[show cond (ltI (k:Int) 16) _ _=_ from ct (by simp;omega) rfl]
   rw[hm,show (1:Int)=((1:Nat):Int) from rfl,show (2:Int)=((2:Nat):Int) from rfl,show (3:Int)=((3:Nat):Int) from rfl,ha 1 (by omega),ha 2 (by omega),ha 3 (by omega)]
   rw[show cond (inb ((4*k:Nat):Int) s.size) _ _=_ from ct (by simp;omega) rfl,show cond (inb ((4*k+1:Nat):Int) s.size) _ _=_ from ct (by simp;omega) rfl,show cond (inb ((4*k+2:Nat):Int) s.size) _ _=_ from ct (by simp;omega) rfl,show cond (inb ((4*k+3:Nat):Int) s.size) _ _=_ from ct (by simp;omega) rfl,show cond (inb (k:Int) 64) _ _=_ from ct (by simp;omega) rfl]
   exact fin _
  ·have hs15:sb .i64 (k:Int) 15=((k-15:Nat):Int):=by rw[sb64 (by omega) (by omega)];omega
   have hs2:sb .i64 (k:Int) 2=((k-2:Nat):Int):=by rw[sb64 (by omega) (by omega)];omega
   have hs16:sb .i64 (k:Int) 16=((k-16:Nat):Int):=by rw[sb64 (by omega) (by omega)];omega
   have hs7:sb .i64 (k:Int) 7=((k-7:Nat):Int):=by rw[sb64 (by omega) (by omega)];omega
   obtain⟨r5,e5⟩:=right_spec ((w32 w).at (sb .i64 (k:Int) 15).toNat).i 7
   obtain⟨r6,e6⟩:=right_spec ((w32 w).at (sb .i64 (k:Int) 15).toNat).i 18
   obtain⟨r7,e7⟩:=right_spec ((w32 w).at (sb .i64 (k:Int) 2).toNat).i 17
   obtain⟨r8,e8⟩:=right_spec ((w32 w).at (sb .i64 (k:Int) 2).toNat).i 19
   rw[show cond (ltI (k:Int) 16) _ _=_ from cf (by simp;omega) rfl]
   rw[show cond (inb (sb .i64 (k:Int) 15) 64) _ _=_ from ct (by rw[hs15];simp;omega) rfl,show cond (inb (sb .i64 (k:Int) 2) 64) _ _=_ from ct (by rw[hs2];simp;omega) rfl,show cond (inb (sb .i64 (k:Int) 16) 64) _ _=_ from ct (by rw[hs16];simp;omega) rfl]
   rw[e5,bd_some,e6,bd_some,show cond (inb (sb .i64 (k:Int) 7) 64) _ _=_ from ct (by rw[hs7];simp;omega) rfl,e7,bd_some,e8,bd_some,show cond (inb (k:Int) 64) _ _=_ from ct (by simp;omega) rfl]
   exact fin _
 ·rw[show cond (ltI (k:Int) 64) _ _=_ from cf (by simp;omega) rfl]
  exact⟨w,rfl,hw⟩
theorem mix_spec (h k:List Int) (s:ByteArray) (hh:h.length=8) (hs:s.size=64):∃h':List Int,F89.s FUEL (w32 h) (w32 k) s=some (w32 h')∧h'.length=8:=by
 unfold F89.s
 obtain⟨w,hw,hwl⟩:=words_spec s hs
 rw[show cond (Nat.beq (w32 h).parts.length 8) _ _=_ from ct (by simp[w32,hh]) rfl,hw]
 rw[bd_some]
 refine goS_rule (fun t:F89.S3=>∃(j:Nat) (i6 i7 i8 i9 i10 i11 i12 i13:Int) (b14:Bool) (l:List D),t=⟨w32 w,(j:Int),w32 h,w32 k,i6,i7,i8,i9,i10,i11,i12,i13,b14,l⟩∧j≤64∧l.length=8) (fun t=>64-t.i3.toNat) (fun o=>∃h':List Int,o=some (w32 h')∧h'.length=8) ?_ _ _ ⟨0,0,0,0,0,0,0,0,0,true,_,rfl,by omega,by simp[w32,hh]⟩ (by simp[FUEL])
 rintro _ rec ⟨j,i6,i7,i8,i9,i10,i11,i12,i13,b14,l,rfl,hj,hl⟩ hrec
 simp only[F89.st3]
 by_cases h1:j<64
 ·rw[show cond (ltI (j:Int) 64) _ _=_ from ct (by simp;omega) rfl,show ∀a:Option D,cond (inb (j:Int) 64) a none=a from fun a=>ct (by simp;omega) rfl]
  obtain⟨r1,e1⟩:=right_spec (ix l 4).i 6
  obtain⟨r2,e2⟩:=right_spec (ix l 4).i 11
  obtain⟨r3,e3⟩:=right_spec (ix l 4).i 25
  obtain⟨r4,e4⟩:=right_spec (ix l 0).i 2
  obtain⟨r5,e5⟩:=right_spec (ix l 0).i 13
  obtain⟨r6,e6⟩:=right_spec (ix l 0).i 22
  have hc:(true&&true&&true&&(Nat.beq l.length 8))=true:=by simp[hl]
  have hc2:∀a:Option D,cond (inb (j:Int) 64) a none=a:=fun a=>ct (by simp;omega) rfl
  rw[e1,bd_some,e2,bd_some,e3,bd_some,hc2,e4,bd_some,e5,bd_some,e6,bd_some,hc,cond_true,cond_true]
  have hadd:ad .i64 (j:Int) 1=((j+1:Nat):Int):=by rw[ad64 (by omega) (by omega)];rfl
  rw[hadd]
  refine hrec _ ⟨j+1,i6,i7,i8,i9,i10,i11,i12,i13,b14,_,rfl,by omega,?_⟩ ?_
  ·simp[ap,hl]
  ·simp;omega
 ·rw[show cond (ltI (j:Int) 64) _ _=_ from cf (by simp;omega) rfl]
  refine goS_rule (fun t:F89.S13=>∃(m:Nat) (d24:D) (i25 i26 i27 i28 i29 i30 i31 i32:Int) (b33:Bool) (l34:List D) (h:List Int),t=⟨(m:Int),w32 h,d24,i25,i26,i27,i28,i29,i30,i31,i32,b33,l34⟩∧m≤8∧h.length=8) (fun t=>8-t.i22.toNat) (fun o=>∃h':List Int,o=some (w32 h')∧h'.length=8) ?_ _ _ ⟨0,_,i6,i7,i8,i9,i10,i11,i12,i13,b14,l,h,rfl,by omega,hh⟩ (by simp[FUEL])
  rintro _ rec2 ⟨m,d24,i25,i26,i27,i28,i29,i30,i31,i32,b33,l34,g,rfl,hm,hg⟩ hrec2
  simp only[F89.st13]
  by_cases h2:m<8
  ·have hc:∀a:Option D,cond (inb (m:Int) 8) a none=a:=fun a=>ct (by simp;omega) rfl
   rw[show cond (ltI (m:Int) 8) _ _=_ from ct (by simp;omega) rfl,hc,hc,hc,w32_set]
   have hadd:ad .i64 (m:Int) 1=((m+1:Nat):Int):=by rw[ad64 (by omega) (by omega)];rfl
   rw[hadd]
   exact hrec2 _ ⟨m+1,d24,i25,i26,i27,i28,i29,i30,i31,i32,b33,l34,_,rfl,by omega,by simpa using hg⟩ (by simp;omega)
  ·rw[show cond (ltI (m:Int) 8) _ _=_ from cf (by simp;omega) rfl]
   exact⟨g,rfl,hg⟩
theorem tmod_nat (a b:Nat):remI (nI a) (b:Int)=((a%b:Nat):Int):=by
 simp[remI,nI];rfl
theorem ofBytes_size (l:List D):(ofBytes l).size=l.length:=by
 simp[ofBytes,ByteArray.size]
theorem bytesOf_len (s:ByteArray):(bytesOf s).length=s.size:=by simp[bytesOf]
theorem pad_spec (b:ByteArray) (hb:b.size≤1000000):∃t,F88.s FUEL b=some (dS t)∧t.size%64=0∧t.size≤b.size+72:=by
 unfold F88.s
 rw[show cond (mx b.size) _ _=_ from ct (by simp;omega) rfl,show cond (mx (b.size+1)) _ _=_ from ct (by simp;omega) rfl]
 refine goS_rule (fun t:F88.S2=>∃(l:List D) (b4:Bool),t=⟨b,0,l.length,b4,l⟩∧l.length≤b.size+64∧(l.length%64=56∨l.length+(120-l.length%64)%64≤b.size+64)) (fun t=>(120-t.n3%64)%64) (fun o=>∃t,o=some (dS t)∧t.size%64=0∧t.size≤b.size+72) ?_ _ _ ⟨ap (((bytesOf b).drop 0).take b.size) [D.int .u8 128],true,?_,?_,?_⟩ (by simp[FUEL];omega)
 ·rintro _ rec ⟨l,b4,rfl,hl,hl2⟩ hrec
  simp only[F88.st2]
  have hrem:=tmod_nat l.length 64
  rw[show ((64:Nat):Int)=64 from rfl] at hrem
  rw[hrem]
  by_cases h1:l.length%64=56
  ·rw[show cond (neI ((l.length%64:Nat):Int) 56) _ _=_ from cf (by simp;omega) rfl]
   refine goS_rule (fun t:F88.S6=>∃(m:List D) (i8:Int) (k:Nat) (b10:Bool),t=⟨0,m.length,i8,(k:Int)-1,b10,m⟩∧k≤8∧m.length=l.length+(8-k)) (fun t=>(t.i9+1).toNat) (fun o=>∃t,o=some (dS t)∧t.size%64=0∧t.size≤b.size+72) ?_ _ _ ⟨l,_,8,b4,rfl,by omega,by omega⟩ (by simp[FUEL])
   rintro _ rec2 ⟨m,i8,k,b10,rfl,hk,hm⟩ hrec2
   simp only[F88.st6]
   by_cases h2:1≤k
   ·have hml:ml .i64 8 ((k:Int)-1)=8*((k:Int)-1):=by rw[ml64 (by omega) (by omega)]
    rw[show cond (geI ((k:Int)-1) 0) _ _=_ from ct (by simp;omega) rfl,hml,if_neg (by omega)]
    rw[bd_some]
    rw[show cond (mx (m.length+1)) _ _=_ from ct (by simp;omega) rfl]
    have step:∀(x:D) (bb:Bool),∃t,rec2 ⟨0,m.length+1,i8,sb .i64 ((k:Int)-1) 1,bb,ap ((m.drop 0).take m.length) [x]⟩=some (dS t)∧t.size%64=0∧t.size≤b.size+72:=by
     intro x bb
     have e1:(ap ((m.drop 0).take m.length) [x]).length=m.length+1:=by simp[ap]
     have e2:sb .i64 ((k:Int)-1) 1=((k-1:Nat):Int)-1:=by rw[sb64 (by omega) (by omega)];omega
     refine hrec2 _ ⟨ap ((m.drop 0).take m.length) [x],i8,k-1,bb,by rw[e1,e2],by omega,by omega⟩ ?_
     rw[e2];dsimp only;omega
    exact step _ _
   ·rw[show cond (geI ((k:Int)-1) 0) _ _=_ from cf (by simp;omega) rfl]
    refine⟨_,rfl,?_,?_⟩
    ·rw[ofBytes_size];simp;omega
    ·rw[ofBytes_size];simp;omega
  ·rw[show cond (neI ((l.length%64:Nat):Int) 56) _ _=_ from ct (by simp;omega) rfl,show cond (mx (l.length+1)) _ _=_ from ct (by simp;omega) rfl]
   have step:∀(x:D) (bb:Bool),∃t,rec ⟨b,0,l.length+1,bb,ap ((l.drop 0).take l.length) [x]⟩=some (dS t)∧t.size%64=0∧t.size≤b.size+72:=by
    intro x bb
    have e1:(ap ((l.drop 0).take l.length) [x]).length=l.length+1:=by simp[ap]
    refine hrec _ ⟨ap ((l.drop 0).take l.length) [x],bb,by rw[e1],by omega,by omega⟩ ?_
    dsimp only;omega
   exact step _ _
 ·rw[F88.S2.mk.injEq]
  refine⟨rfl,rfl,?_,rfl,rfl⟩
  simp[ap,bytesOf_len]
 ·simp[ap,bytesOf_len]
 ·simp[ap,bytesOf_len];omega
def H0:List Int:=[1779033703,3144134277,1013904242,2773480762,1359893119,2600822924,528734635,1541459225]
def K0:List Int:=[1116352408,1899447441,3049323471,3921009573,961987163,1508970993,2453635748,2870763221,
 3624381080,310598401,607225278,1426881987,1925078388,2162078206,2614888103,3248222580,
 3835390401,4022224774,264347078,604807628,770255983,1249150122,1555081692,1996064986,
 2554220882,2821834349,2952996808,3210313671,3336571891,3584528711,113926993,338241895,
 666307205,773529912,1294757372,1396182291,1695183700,1986661051,2177026350,2456956037,
 2730485921,2820302411,3259730800,3345764771,3516065817,3600352804,4094571909,275423344,
 430227734,506948616,659060556,883997877,958139571,1322822218,1537002063,1747873779,
 1955562222,2024104815,2227730452,2361852424,2428436474,2756734187,3204031479,3329325298]
end Go.AM.SZ
namespace Go.AM.SZ
open Go Go.AM
set_option maxRecDepth 1000000 in
theorem const_spec:F87.s FUEL=some (.tup [w32 H0,w32 K0]):=by kernel_rfl
end Go.AM.SZ
namespace Go.AM.SZ
open Go Go.AM
theorem quo4 (k:Nat) (hk:k<32):quoI .i64 (k:Int) 4=((k / 4:Nat):Int):=by
 have h1:(k:Int).tdiv 4=((k / 4:Nat):Int):=rfl
 unfold quoI
 rw[h1]
 have:=ad64 (a:=((k / 4:Nat):Int)) (b:=0) (by omega) (by omega)
 simpa[ad] using this
theorem of_spec_ex (b:ByteArray) (hb:b.size≤1000000):∃l:List Int,F42.s FUEL b=some (sumD l)∧l.length=32:=by
 unfold F42.s
 obtain⟨t,ht,h1,h2⟩:=pad_spec b hb
 rw[const_spec,bd_some,ht,bd_some]
 refine goS_rule (fun s:F42.S3=>∃(t:ByteArray) (d:D) (h:List Int),s=⟨dS t,d,w32 h,w32 K0⟩∧t.size%64=0∧t.size≤b.size+72∧h.length=8) (fun s=>s.d3.s.size) (fun o=>∃l:List Int,o=some (sumD l)∧l.length=32) ?_ _ _ ⟨t,_,H0,rfl,h1,h2,rfl⟩ (by simp[FUEL];omega)
 rintro _ rec ⟨t,d,h,rfl,h1,h2,h3⟩ hrec
 simp only[F42.st3]
 have hds:(dS t).s=t:=rfl
 rw[hds]
 by_cases h0:0<t.size
 ·have h64:64≤t.size:=by omega
  rw[show cond (gtI (nI t.size) 0) _ _=_ from ct (by simp;omega) rfl,show (true&&true&&(leI 64 (nI t.size))&&(leI (nI t.size) (nI t.size)))=true from by simp;omega,
   show (true&&(leI 64 (nI t.size))&&(leI (nI t.size) (nI t.size))&&(leI (nI t.size) (nI t.size)))=true from by simp;omega,cond_true]
  obtain⟨h',e1,e2⟩:=mix_spec h K0 (t.extract 0 64) h3 (by simp;omega)
  rw[e1,bd_some,cond_true]
  refine hrec _ ⟨t.extract 64 t.size,d,h',rfl,?_,?_,e2⟩ ?_
  ·simp;omega
  ·simp;omega
  ·simp;omega
 ·rw[show cond (gtI (nI t.size) 0) _ _=_ from cf (by simp only[gtI_f,nI_eq];omega) rfl]
  refine goS_rule (fun s:F42.S8=>∃(k:Nat) (d9 d11:D) (l:List Int),s=⟨(k:Int),d9,w32 h,d11,sumD l⟩∧k≤32∧l.length=32) (fun s=>32-s.i8.toNat) (fun o=>∃l:List Int,o=some (sumD l)∧l.length=32) ?_ _ _ ⟨0,_,_,zeros,rfl,by omega,rfl⟩ (by simp[FUEL])
  rintro _ rec2 ⟨k,d9,d11,l,rfl,hk,hl⟩ hrec2
  simp only[F42.st8]
  by_cases hk2:k<32
  ·have hadd:ad .i64 (k:Int) 1=((k+1:Nat):Int):=by rw[ad64 (by omega) (by omega)];rfl
   have hrem:=tmod_nat k 4
   rw[show ((4:Nat):Int)=4 from rfl,nI_eq] at hrem
   have hml:ml .i64 8 ((k%4:Nat):Int)=((8*(k%4):Nat):Int):=by rw[ml64 (by omega) (by omega)];omega
   have hsb:sb .i64 24 ((8*(k%4):Nat):Int)=((24-8*(k%4):Nat):Int):=by rw[sb64 (by omega) (by omega)];omega
   rw[show cond (ltI (k:Int) 32) _ _=_ from ct (by simp;omega) rfl,quo4 k hk2,hrem,hml,hsb,show cond (inb ((k / 4:Nat):Int) 8) _ _=_ from ct (by simp;omega) rfl,if_neg (by omega)]
   rw[bd_some]
   rw[show cond (inb (k:Int) 32) _ _=_ from ct (by simp;omega) rfl,hadd]
   have step:∀x:Int,∃l':List Int,rec2 ⟨((k+1:Nat):Int),d9,w32 h,d11,D.agg ((sumD l).parts.set (Int.toNat (k:Int)) (D.int .u8 x))⟩=some (sumD l')∧l'.length=32:=by
    intro x
    have e:D.agg ((sumD l).parts.set (Int.toNat (k:Int)) (D.int .u8 x))=sumD (l.set k x):=by
     unfold sumD
     rw[List.map_set]
     rfl
    rw[e]
    exact hrec2 _ ⟨k+1,d9,d11,l.set k x,rfl,by omega,by simpa using hl⟩ (by simp;omega)
   exact step _
  ·rw[show cond (ltI (k:Int) 32) _ _=_ from cf (by simp;omega) rfl]
   exact⟨l,rfl,hl⟩
def shaL (b:ByteArray):List Int:=match F42.s FUEL b with
 | some (.agg ds)=>if ds.length=32 then ds.map D.i else zeros
 | _=>zeros
theorem shaL_len (b:ByteArray):(shaL b).length=32:=by
 unfold shaL
 split
 ·split
  ·simpa
  ·rfl
 ·rfl
theorem sha_spec (b:ByteArray) (hb:b.size≤1000000):F42.s FUEL b=some (sumD (shaL b)):=by
 obtain⟨l,h1,h2⟩:=of_spec_ex b hb
 have:shaL b=l:=by
  unfold shaL
  rw[h1]
  simp only[sumD]
  rw[if_pos (by simpa using h2),List.map_map]
  have:D.i∘D.int IntKind.u8=id:=rfl
  rw[this,List.map_id]
 rw[this,h1]
end Go.AM.SZ
namespace Go.AM.SZ
open Go Go.AM
theorem wrong_spec (e:Int):F33.s FUEL e=some (wrongA e).enc:=rfl
theorem find_specM (s:St) (n:ByteArray) (hl:s.files.length≤1048576):F25.s FUEL s.enc n=some (di (findI (fun f:Fl=>decide (f.name=n)) s.files)):=by
 unfold F25.s
 have h0:s.enc.at 0=dl s.nn (s.files.map Fl.enc):=rfl
 rw[h0]
 refine goS_rule (fun t:F25.S45_2=>∃k:Nat,t=⟨dl s.nn (s.files.map Fl.enc),nI s.files.length,(k:Int),s.enc,n⟩∧k≤s.files.length∧∀i (h:i<s.files.length),i<k→decide (s.files[i].name=n)=false) (fun t=>s.files.length-t.i3.toNat) (fun o=>o=some (di (findI (fun f:Fl=>decide (f.name=n)) s.files))) ?_ _ _ ⟨0,by simp,by omega,by omega⟩ (by simp[FUEL];omega)
 rintro _ rec ⟨k,rfl,hk,hs⟩ hrec
 simp only[F25.st45_2]
 by_cases h1:k<s.files.length
 ·refine ct (by simp;omega) (ct (by simp;omega) ?_)
  simp only[elems_slice,Int.toNat_natCast,ix_map h1]
  by_cases h2:s.files[k].name=n
  ·refine ct (by show eqS s.files[k].name n=true;simpa using h2) ?_
   rw[findI,findIdx_some_of h1 hs (by simpa using h2)]
  ·refine cf (by show eqS s.files[k].name n=false;simpa using h2) (hrec _ ⟨k+1,?_,by omega,?_⟩ ?_)
   ·rw[ad64 (by omega) (by omega)];rfl
   ·intro i hi hik
    by_cases hik':i=k
    ·subst hik';simpa using h2
    ·exact hs i hi (by omega)
   ·rw[ad64 (by omega) (by omega)];simp;omega
 ·refine cf (by simp;omega) ?_
  rw[findI,findIdx_none_of (fun i hi=>hs i hi (by omega))]
theorem numbered_spec (n:Int):F101.s FUEL n=some (db (decide (1≤n)&&decide (n≤1099511627776))):=by
 unfold F101.s
 by_cases h:1≤n
 ·exact ct (by simpa using h) (by simp[h,leI])
 ·exact cf (by simp;omega) (by simp[h])
theorem new_spec (id:Int) (s:ByteArray) (hs:s.size≤1048576):F106.s FUEL id s=some (.tup [(newF id s).1.enc,di (newF id s).2]):=by
 unfold F106.s newF
 refine bdS (name_spec s hs) ?_
 cases hv:nameB s with
 | false=>exact ct rfl rfl
 | true=>
  refine cf rfl (bdS (numbered_spec id) ?_)
  by_cases h:1≤id∧id≤1099511627776
  ·rw[if_neg (by simp),if_pos h]
   exact cf (by simp[h.1,h.2]) rfl
  ·rw[if_neg (by simp),if_neg h]
   exact ct (by simp;omega) rfl
theorem clone_files (nn:Bool) (l:List D) (h:nn=false→l=[]) (hl:l.length≤1073741824):F107.s FUEL (dl nn l)=some (dl nn l):=by
 unfold F107.s
 cases nn with
 | false=>rw[h rfl];rfl
 | true=>exact cf rfl (ct (by simpa using hl) (ct (by simp) rfl))
theorem append_spec (f:Fl) (s:ByteArray) (hf:f.data.size≤1000000) (hs:s.size≤1000000):F148.s FUEL f.enc s=some (.tup [(appendF f s).1.enc,di (appendF f s).2]):=by
 unfold F148.s appendF
 have h3:(f.enc.at 3).b=f.sealed:=rfl
 have h2:(f.enc.at 2).s=f.data:=rfl
 rw[h3,h2]
 by_cases hse:f.sealed=true
 ·rw[if_pos hse];exact ct hse rfl
 ·refine cf (by simpa using hse) ?_
  rw[if_neg hse]
  by_cases h0:s=bs []
  ·rw[if_pos h0];exact ct (by simpa using h0) (by subst h0;rfl)
  rw[if_neg h0]
  refine cf (by simpa using h0) ?_
  have ha:ad .i64 (nI f.data.size) (nI s.size)=((f.data.size+s.size:Nat):Int):=by rw[nI_eq,nI_eq,ad64 (by omega) (by omega)];omega
  rw[ha]
  by_cases h1:600<f.data.size+s.size
  ·rw[if_pos h1];exact ct (by simp;omega) rfl
  ·rw[if_neg h1]
   refine cf (by simp;omega) (bdS (x:=dS (f.data++s)) ?_ rfl)
   unfold cat
   rw[if_pos (by have:(1000000000000:Nat)≤maxInt:=by decide
                 omega)]
theorem read_spec (f:Fl) (a b:Int):F114.s FUEL f.enc a b=some (.tup [dS (readF f a b).1,di (readF f a b).2]):=by
 unfold F114.s readF
 have h2:(f.enc.at 2).s=f.data:=rfl
 rw[h2]
 by_cases h0:a<0
 ·rw[if_pos h0];exact ct (by simpa using h0) rfl
 rw[if_neg h0]
 refine cf (by simp;omega) ?_
 by_cases h1:b<a
 ·rw[if_pos h1];exact ct (by simpa using h1) rfl
 rw[if_neg h1]
 refine cf (by simp;omega) ?_
 by_cases h3:(f.data.size:Int)<b
 ·rw[if_pos h3];exact ct (by simpa using h3) rfl
 rw[if_neg h3]
 exact cf (by simp;omega) (ct (by simp;omega) rfl)
theorem meta_spec (f:Fl):F41.s FUEL f.enc=some (metaF f).enc:=rfl
theorem floor_spec (a b:Int):F110.s FUEL a b=some (di (floorN a b)):=by
 unfold F110.s floorN maxi mini
 congr 2
 repeat' split
 all_goals omega
theorem tell_spec (f:Fl) (o:Mo) (hf:f.data.size≤1000000):F139.s FUEL f.enc o.enc=some (tellE shaL f o).enc:=by
 unfold F139.s tellE
 have h0:(o.enc.at 0).i=o.kind:=rfl
 have hd:(f.enc.at 2).s=f.data:=rfl
 rw[h0,hd]
 by_cases h1:o.kind=1
 ·refine ct (by simpa using h1) ?_
  simp only[h1]
  have:o.enc.at 0=di 1:=by rw[←h1];rfl
  rw[this]
  rfl
 refine cf (by simpa using h1) ?_
 by_cases h2:o.kind=2
 ·refine ct (by simpa using h2) (bdS (sha_spec f.data hf) ?_)
  have e1:(if o.kind=4∨o.kind=5 then o.text else bs [])=bs []:=if_neg (by omega)
  have e2:(if o.kind=2∨o.kind=3 then o.time else 0)=o.time:=if_pos (by omega)
  have e3:(if o.kind=1 then (o.text.size:Int) else if o.kind=2 then (f.data.size:Int) else 0)=(f.data.size:Int):=by rw[if_neg h1,if_pos h2]
  have e4:(if o.kind=2 then shaL f.data else zeros)=shaL f.data:=if_pos h2
  rw[e1,e2,e3,e4]
  generalize shaL f.data=L
  rfl
 refine cf (by simpa using h2) ?_
 by_cases h3:o.kind=3
 ·refine ct (by simpa using h3) ?_
  simp only[h3]
  have:o.enc.at 0=di 3:=by rw[←h3];rfl
  rw[this]
  rfl
 refine cf (by simpa using h3) ?_
 by_cases h4:o.kind=4
 ·refine ct (by simpa using h4) (ct (by simpa using h4) ?_)
  simp only[h4]
  have:o.enc.at 0=di 4:=by rw[←h4];rfl
  rw[this]
  rfl
 refine cf (by simpa using h4) ?_
 by_cases h5:o.kind=5
 ·refine ct (by simpa using h5) ?_
  simp only[h5]
  have:o.enc.at 0=di 5:=by rw[←h5];rfl
  rw[this]
  rfl
 ·refine cf (by simpa using h5) ?_
  have e1:(if o.kind=4∨o.kind=5 then o.text else bs [])=bs []:=if_neg (by omega)
  have e2:(if o.kind=2∨o.kind=3 then o.time else 0)=0:=if_neg (by omega)
  have e3:(if o.kind=1 then (o.text.size:Int) else if o.kind=2 then (f.data.size:Int) else 0)=0:=by rw[if_neg h1,if_neg h2]
  have e4:(if o.kind=2 then shaL f.data else zeros)=zeros:=if_neg h2
  rw[e1,e2,e3,e4]
  rfl
theorem fileDo_spec (f:Fl) (o:Mo) (floor last:Int) (hf:FlOk f last) (ho:MoOk o):F108.s FUEL f.enc o.enc floor=some (.tup [(fileDo shaL f o floor).1.enc,(fileDo shaL f o floor).2.1.enc,di (fileDo shaL f o floor).2.2]):=by
 have hd:=hf.data
 have ht:=ho.text
 have htell:=tell_spec f o (by omega)
 unfold F108.s fileDo
 have h0:(o.enc.at 0).i=o.kind:=rfl
 rw[h0]
 have fin:∀(r:Fl×Int),(bd (some (D.tup [r.1.enc,di r.2])) fun r1=>(cond (neI (r1.at 1).i 0) (some (D.tup [f.enc,(da [(di 0),(di 0),(dS (bs [])),(di 0),(di 0),(da (rp 32 (D.int .u8 0)))]),(r1.at 1)])) (bd (F139.s FUEL f.enc o.enc) fun r2=>(some (D.tup [(r1.at 0),r2,(di 0)]))))) =
   some (.tup [(if r.2=0 then (r.1,tellE shaL f o,(0:Int)) else (f,zeroEv,r.2)).1.enc,(if r.2=0 then (r.1,tellE shaL f o,(0:Int)) else (f,zeroEv,r.2)).2.1.enc,di (if r.2=0 then (r.1,tellE shaL f o,(0:Int)) else (f,zeroEv,r.2)).2.2]):=by
  intro r
  rw[bd_some]
  by_cases h:r.2=0
  ·rw[if_pos h]
   exact cf (by show neI r.2 0=false;simpa using h) (bdS htell rfl)
  ·rw[if_neg h]
   exact ct (by show neI r.2 0=true;simpa using h) rfl
 by_cases h1:o.kind=1
 ·refine ct (by simpa using h1) (cf (by simp[h1]) (cf (by simp[h1]) ?_))
  have hR:deedF f o floor=appendF f o.text:=by unfold deedF;simp[h1]
  rw[hR,show F148.s FUEL f.enc (o.enc.at 2).s=_ from append_spec f o.text (by omega) (by omega)]
  exact fin _
 refine cf (by simpa using h1) ?_
 by_cases h4:o.kind=4
 ·refine ct (by simpa using h4) (cf (by simp[h4]) (cf (by simp[h4]) ?_))
  have hR:deedF f o floor=holdF f o.text:=by unfold deedF;simp[h4]
  rw[hR,show F81.s FUEL f.enc (o.enc.at 2).s=_ from hold_spec f o.text (by omega) (by have:=hf.hold;omega) (fun x hx=>by have:=hf.hsz x hx;omega) hf.nil]
  exact fin _
 refine cf (by simpa using h4) ?_
 by_cases h5:o.kind=5
 ·refine ct (by simpa using h5) (cf (by simp[h5]) (cf (by simp[h5]) ?_))
  have hR:deedF f o floor=releaseF f o.text:=by unfold deedF;simp[h5]
  rw[hR,show F83.s FUEL f.enc (o.enc.at 2).s=_ from release_spec f o.text (by have:=hf.hold;omega) hf.nil]
  exact fin _
 refine cf (by simpa using h5) ?_
 by_cases h2:o.kind=2
 ·refine ct (by simpa using h2) (cf (by simp[h2]) (cf (by simp[h2]) ?_))
  have hR:deedF f o floor=sealF f o.time:=by unfold deedF;simp[h2]
  rw[hR,show F76.s FUEL f.enc (o.enc.at 3).i=_ from seal_spec f o.time]
  exact fin _
 refine cf (by simpa using h2) ?_
 by_cases h3:o.kind=3
 ·refine ct (by simpa using h3) (cf (by simp[h3]) (cf (by simp[h3]) ?_))
  have hR:deedF f o floor=extendF f o.time:=by unfold deedF;simp[h3]
  rw[hR,show F79.s FUEL f.enc (o.enc.at 3).i=_ from extend_spec f o.time]
  exact fin _
 refine cf (by simpa using h3) ?_
 by_cases h6:o.kind=6
 ·refine ct (by simpa using h6) (cf (by simp[h6]) (ct (by simpa using h6) ?_))
  have hR:deedF f o floor=(zeroF,mayN f floor):=by unfold deedF;simp[h6]
  rw[hR]
  refine bdS (may_spec f floor) ?_
  by_cases h:mayN f floor=0
  ·rw[if_pos h]
   exact cf (by show neI (mayN f floor) 0=false;simpa using h) (bdS htell rfl)
  ·rw[if_neg h]
   exact ct (by show neI (mayN f floor) 0=true;simpa using h) rfl
 refine cf (by simpa using h6) ?_
 by_cases h0:o.kind=0
 ·have hR:deedF f o floor=(f,4):=by unfold deedF;simp[h0]
  rw[hR]
  exact ct (by simpa using h0) rfl
 ·have hR:deedF f o floor=(f,1):=by unfold deedF;simp[h0,h1,h2,h3,h4,h5,h6]
  rw[hR]
  exact cf (by simpa using h0) rfl
end Go.AM.SZ
namespace Go.AM.SZ
open Go Go.AM
namespace F15
def createS (M:Nat) (p0 p1:D):Option D:=
 (bd (F70.s FUEL (p1.at 1).s) fun r3=>(cond (!r3.b) (bd (F33.s FUEL 2) fun r4=>(some (D.tup [p0,r4,(dl false [])]))) (bd (F25.s FUEL p0 (p1.at 1).s) fun r5=>(cond (geI r5.i 0) (bd (F33.s FUEL 4) fun r6=>(some (D.tup [p0,r6,(dl false [])]))) (cond (geI (nI (p0.at 0).elems.length) 12) (bd (F33.s FUEL 10) fun r7=>(some (D.tup [p0,r7,(dl false [])]))) (cond (geI (p0.at 1).i 1099511627776) (bd (F33.s FUEL 10) fun r8=>(some (D.tup [p0,r8,(dl false [])]))) (bd (F106.s FUEL (ad .i64 (p0.at 1).i 1) (p1.at 1).s) fun r9=>(cond (neI (r9.at 1).i 0) (bd (F33.s FUEL (r9.at 1).i) fun r10=>(some (D.tup [p0,r10,(dl false [])]))) (bd (F107.s FUEL (p0.at 0)) fun r11=>(cond (mx (r11.elems.length+1)) (some (D.tup [(da [(dl (r11.nn||true) (((ap ((r11.elems.drop 0).take r11.elems.length) [(r9.at 0)]).drop 0).take (r11.elems.length+1))),((r9.at 0).at 0),(p0.at 2)]),(da [(di 0),((r9.at 0).at 0),(dS (bs [])),(da [(di 0),(dS (bs [])),(dS (bs [])),(db false),(di 0),(dl false [])]),(dl false [])]),(dl true [(da [(di 0),((r9.at 0).at 0),((r9.at 0).at 1),(di 0),(di 0),(da (rp 32 (D.int .u8 0)))])])])) none))))))))))
def changeS (M:Nat) (p0 p1:D):Option D:=
 (bd (F25.s FUEL p0 (p1.at 1).s) fun r12=>(cond (ltI r12.i 0) (bd (F33.s FUEL 3) fun r13=>(some (D.tup [p0,r13,(dl false [])]))) (cond (inb r12.i (p0.at 0).elems.length) (bd (F108.s FUEL (ix (p0.at 0).elems (r12.i).toNat) p1 (p0.at 2).i) fun r14=>(cond (neI (r14.at 2).i 0) (bd (F33.s FUEL (r14.at 2).i) fun r15=>(some (D.tup [p0,r15,(dl false [])]))) (bd (F107.s FUEL (p0.at 0)) fun r16=>(cond (eqI (p1.at 0).i 6) (cond ((leI 0 r12.i)&&(leI r12.i (ad .i64 r12.i 1))&&(leI (ad .i64 r12.i 1) (nI r16.elems.length))&&(leI (nI r16.elems.length) (nI r16.elems.length))&&(eqN (0+r16.elems.length) r16.elems.length)) (cond (eqI r12.i (ad .i64 r12.i 1)) (some (D.tup [(da [(dl r16.nn ((r16.elems.drop 0).take r16.elems.length)),(p0.at 1),(p0.at 2)]),(da [(di 0),((r14.at 1).at 1),(dS (bs [])),(da [(di 0),(dS (bs [])),(dS (bs [])),(db false),(di 0),(dl false [])]),(dl false [])]),(dl true [(r14.at 1)])])) (cond (true&&(leI 0 r12.i)&&(leN (0+(r12.i).toNat) r16.elems.length)) (cond ((leI 0 (ad .i64 r12.i 1))&&(leI (ad .i64 r12.i 1) (nI r16.elems.length))&&(leN (0+r16.elems.length) r16.elems.length)) (cond (leN ((0+((r12.i).toNat-0))+((r16.elems.drop (0+(ad .i64 r12.i 1).toNat)).take (r16.elems.length-(ad .i64 r12.i 1).toNat)).length) r16.elems.length) (cond ((leI 0 (nI (((r12.i).toNat-0)+((r16.elems.drop (0+(ad .i64 r12.i 1).toNat)).take (r16.elems.length-(ad .i64 r12.i 1).toNat)).length)))&&(leI (nI (((r12.i).toNat-0)+((r16.elems.drop (0+(ad .i64 r12.i 1).toNat)).take (r16.elems.length-(ad .i64 r12.i 1).toNat)).length)) (nI r16.elems.length))&&(leN (0+r16.elems.length) (ap (ap (r16.elems.take (0+((r12.i).toNat-0))) ((r16.elems.drop (0+(ad .i64 r12.i 1).toNat)).take (r16.elems.length-(ad .i64 r12.i 1).toNat))) (r16.elems.drop ((0+((r12.i).toNat-0))+((r16.elems.drop (0+(ad .i64 r12.i 1).toNat)).take (r16.elems.length-(ad .i64 r12.i 1).toNat)).length))).length)) (some (D.tup [(da [(dl r16.nn (((ap (ap ((ap (ap (r16.elems.take (0+((r12.i).toNat-0))) ((r16.elems.drop (0+(ad .i64 r12.i 1).toNat)).take (r16.elems.length-(ad .i64 r12.i 1).toNat))) (r16.elems.drop ((0+((r12.i).toNat-0))+((r16.elems.drop (0+(ad .i64 r12.i 1).toNat)).take (r16.elems.length-(ad .i64 r12.i 1).toNat)).length))).take (0+(((r12.i).toNat-0)+((r16.elems.drop (0+(ad .i64 r12.i 1).toNat)).take (r16.elems.length-(ad .i64 r12.i 1).toNat)).length))) (rp (r16.elems.length-(((r12.i).toNat-0)+((r16.elems.drop (0+(ad .i64 r12.i 1).toNat)).take (r16.elems.length-(ad .i64 r12.i 1).toNat)).length)) (da [(di 0),(dS (bs [])),(dS (bs [])),(db false),(di 0),(dl false [])]))) ((ap (ap (r16.elems.take (0+((r12.i).toNat-0))) ((r16.elems.drop (0+(ad .i64 r12.i 1).toNat)).take (r16.elems.length-(ad .i64 r12.i 1).toNat))) (r16.elems.drop ((0+((r12.i).toNat-0))+((r16.elems.drop (0+(ad .i64 r12.i 1).toNat)).take (r16.elems.length-(ad .i64 r12.i 1).toNat)).length))).drop ((0+(((r12.i).toNat-0)+((r16.elems.drop (0+(ad .i64 r12.i 1).toNat)).take (r16.elems.length-(ad .i64 r12.i 1).toNat)).length))+(r16.elems.length-(((r12.i).toNat-0)+((r16.elems.drop (0+(ad .i64 r12.i 1).toNat)).take (r16.elems.length-(ad .i64 r12.i 1).toNat)).length))))).drop 0).take (((r12.i).toNat-0)+((r16.elems.drop (0+(ad .i64 r12.i 1).toNat)).take (r16.elems.length-(ad .i64 r12.i 1).toNat)).length))),(p0.at 1),(p0.at 2)]),(da [(di 0),((r14.at 1).at 1),(dS (bs [])),(da [(di 0),(dS (bs [])),(dS (bs [])),(db false),(di 0),(dl false [])]),(dl false [])]),(dl true [(r14.at 1)])])) none) none) none) none)) none) (cond (inb r12.i r16.elems.length) (some (D.tup [(da [(dl r16.nn (((r16.elems.set (0+(r12.i).toNat) (r14.at 0)).drop 0).take r16.elems.length)),(p0.at 1),(p0.at 2)]),(da [(di 0),(di (nI ((r14.at 0).at 2).s.size)),(dS (bs [])),(da [(di 0),(dS (bs [])),(dS (bs [])),(db false),(di 0),(dl false [])]),(dl false [])]),(dl true [(r14.at 1)])])) none))))) none)))
def sweepS (M:Nat) (p0 p1:D):Option D:=
 (bd (F111.s FUEL (p0.at 0) (p0.at 2).i) fun r43=>(goS (st64_3 M) M ⟨0,r43.elems.length,0,r43.elems.length,(nI r43.elems.length),0,p0,p1,false,[],0,0,0,0,(bs []),0,(bs []),(bs []),false,0,false,[],false,[],p0,p1,0,0,0,0,(bs []),0,(bs []),(bs []),false,0,false,[],false,[],r43.nn,r43.elems,false,[]⟩ fun x=>match x with | .e0 n44 n45 n46 n47 i48 i49 d50 d51 b52 l53 i54 i55 i56 i57 s58 i59 s60 s61 b62 i63 b64 l65 b66 l67 d68 d69 n70 n71 i72 i73 s74 i75 s76 s77 b78 i79 b80 l81 b82 l83 b84 l85 b86 l87=>(bd (F107.s FUEL (d68.at 0)) fun r88=>(goS (st45_2 M) M ⟨0,r88.elems.length,(nI r88.elems.length),0,d50,d51,b52,l53,i54,i55,i56,i57,s58,i59,s60,s61,b62,i63,b64,l65,b66,l67,d68,d69,n70,n71,i72,i73,s74,i75,s76,s77,b78,i79,b80,l81,b82,l83,b84,l85,b86,l87,r88.nn,r88.elems⟩ fun x=>match x with | .e0 n89 n90 i91 i92 d93 d94 b95 l96 i97 i98 i99 i100 s101 i102 s103 s104 b105 i106 b107 l108 b109 l110 d111 d112 n113 n114 i115 i116 s117 i118 s119 s120 b121 i122 b123 l124 b125 l126 b127 l128 b129 l130 b131 l132 r133=>(cond (eqI i92 (-1)) (some (D.tup [(da [(dl b131 ((l132.drop 0).take r88.elems.length)),(d111.at 1),(d111.at 2)]),(da [(di 0),(di (nI n45)),(dS (bs [])),(da [(di 0),(dS (bs [])),(dS (bs [])),(db false),(di 0),(dl false [])]),(dl false [])]),(dl b129 ((l130.drop n113).take n114))])) (goS (st112_5 M) M ⟨0,r88.elems.length,i92,(ad .i64 i92 1),d93,d94,b95,l96,i97,i98,i99,i100,s101,i102,s103,s104,b105,i106,b107,l108,b109,l110,d111,d112,n113,n114,i115,i116,s117,i118,s119,s120,b121,i122,b123,l124,b125,l126,b127,l128,b129,l130,b131,l132,(ix l132 (n89+i92.toNat))⟩ fun x=>match x with | .e0 n134 n135 i136 i137 d138 d139 b140 l141 i142 i143 i144 i145 s146 i147 s148 s149 b150 i151 b152 l153 b154 l155 d156 d157 n158 n159 i160 i161 s162 i163 s164 s165 b166 i167 b168 l169 b170 l171 b172 l173 b174 l175 b176 l177 d178=>(cond ((leI 0 i136)&&(leI i136 (nI n135))&&(leN (n134+n135) l177.length)) (cond (true&&(leI 0 i136)&&(leN (n134+i136.toNat) (ap (ap (l177.take (n134+i136.toNat)) (rp (n135-i136.toNat) (da [(di 0),(dS (bs [])),(dS (bs [])),(db false),(di 0),(dl false [])]))) (l177.drop ((n134+i136.toNat)+(n135-i136.toNat)))).length)) (some (D.tup [(da [(dl b176 (((ap (ap (l177.take (n134+i136.toNat)) (rp (n135-i136.toNat) (da [(di 0),(dS (bs [])),(dS (bs [])),(db false),(di 0),(dl false [])]))) (l177.drop ((n134+i136.toNat)+(n135-i136.toNat)))).drop (n134+0)).take (i136.toNat-0))),(d156.at 1),(d156.at 2)]),(da [(di 0),(di (nI n45)),(dS (bs [])),(da [(di 0),(dS (bs [])),(dS (bs [])),(db false),(di 0),(dl false [])]),(dl false [])]),(dl b174 ((l175.drop n158).take n159))])) none) none))) | .e1 n89 n90 i91 i92 d93 d94 b95 l96 i97 i98 i99 i100 s101 i102 s103 s104 b105 i106 b107 l108 b109 l110 d111 d112 n113 n114 i115 i116 s117 i118 s119 s120 b121 i122 b123 l124 b125 l126 b127 l128 b129 l130 b131 l132=>(some (D.tup [(da [(dl b131 ((l132.drop 0).take r88.elems.length)),(d111.at 1),(d111.at 2)]),(da [(di 0),(di (nI n45)),(dS (bs [])),(da [(di 0),(dS (bs [])),(dS (bs [])),(db false),(di 0),(dl false [])]),(dl false [])]),(dl b129 ((l130.drop n113).take n114))]))))))
def listS (M:Nat) (p0 p1:D):Option D:=
 (goS (st67_3 M) M ⟨0,0,(p0.at 0),(nI (p0.at 0).elems.length),0,p0,p1,false,[],0,0,0,0,(bs []),0,(bs []),(bs []),false,0,false,[],false,[],p0,p1,false,[],0,0,(bs []),0,(bs []),(bs []),false,0,false,[],false,[],false,[]⟩ fun x=>match x with | .e0 n186 n187 d188 i189 i190 d191 d192 b193 l194 i195 i196 i197 i198 s199 i200 s201 s202 b203 i204 b205 l206 b207 l208 d209 d210 b211 l212 i213 i214 s215 i216 s217 s218 b219 i220 b221 l222 b223 l224 b225 l226=>(goS (st141_2 M) M ⟨n186,n187,(nI n187),20,0,20,d191,d192,b193,l194,i195,i196,i197,i198,s199,i200,s201,s202,b203,i204,b205,l206,b207,l208,d209,d210,b211,l212,i213,i214,s215,i216,s217,s218,b219,i220,b221,l222,b223,l224,b225,l226⟩ fun x=>match x with | .e0 n227 n228 i229 i230 i231 i232 d233 d234 b235 l236 i237 i238 i239 i240 s241 i242 s243 s244 b245 i246 b247 l248 b249 l250 d251 d252 b253 l254 i255 i256 s257 i258 s259 s260 b261 i262 b263 l264 b265 l266 b267 l268=>(goS (st150_1 M) M ⟨n227,n228,i231,i229,(ad .i64 i231 1),d233,d234,b235,l236,i237,i238,i239,i240,s241,i242,s243,s244,b245,i246,b247,l248,b249,l250,d251,d252,b253,l254,i255,i256,s257,i258,s259,s260,b261,i262,b263,l264,b265,l266,b267,l268⟩ fun x=>match x with | .e0 n269 n270 i271 i272 i273 d274 d275 b276 l277 i278 i279 i280 i281 s282 i283 s284 s285 b286 i287 b288 l289 b290 l291 d292 d293 b294 l295 i296 i297 s298 i299 s300 s301 b302 i303 b304 l305 b306 l307 b308 l309=>(goS (st141_7 M) M ⟨n227,n228,i229,i230,d274,d275,b276,l277,i278,i279,i280,i281,s282,i283,s284,s285,b286,i287,b288,l289,b290,l291,d292,d293,b294,l295,i296,i297,s298,i299,s300,s301,b302,i303,b304,l305,b306,l307,b308,l309⟩ fun x=>match x with | .e0 n353 n354 i355 i356 d357 d358 b359 l360 i361 i362 i363 i364 s365 i366 s367 s368 b369 i370 b371 l372 b373 l374 d375 d376 b377 l378 i379 i380 s381 i382 s383 s384 b385 i386 b387 l388 b389 l390 b391 l392=>(some (D.tup [d375,(da [(di 0),(di 0),(dS (bs [])),(da [(di 0),(dS (bs [])),(dS (bs [])),(db false),(di 0),(dl false [])]),(dl b391 ((l392.drop n186).take n187))]),(dl b377 l378)]))))))
end F15
end Go.AM.SZ
namespace Go.AM.SZ
open Go Go.AM
def Res.enc (r:Res):D:=.tup [r.st.enc,r.an.enc,dl r.nn (r.evs.map Ev.enc)]
theorem stay_enc (s:St) (e:Int):(bd (F33.s FUEL e) fun r=>some (D.tup [s.enc,r,dl false []]))=some (stay s e).enc:=by
 rw[wrong_spec,bd_some];rfl
theorem change_spec (s:St) (o:Mo) (hs:StOk s) (ho:MoOk o):F15.changeS FUEL s.enc o.enc=some (changeM shaL s o).enc:=by
 have hl:=hs.len
 unfold F15.changeS changeM
 have hn:(o.enc.at 1).s=o.name:=rfl
 have h0:s.enc.at 0=dl s.nn (s.files.map Fl.enc):=rfl
 have hfl:(s.enc.at 2).i=s.floor:=rfl
 rw[hn,h0,hfl]
 refine bdS (find_specM s o.name (by omega)) ?_
 cases hx:findM s o.name with
 | none=>
  dsimp only
  rw[findI_none hx]
  exact ct (by simp) (stay_enc s 3)
 | some i=>
  obtain⟨hi,hnm⟩:=findM_is hx
  dsimp only
  rw[List.getElem?_eq_getElem hi,findI_some hx]
  dsimp only
  have hf:=hs.files _ (List.getElem_mem hi)
  have hie:ix (s.files.map Fl.enc) ((di (i:Int)).i).toNat=s.files[i].enc:=by simp[ix_map hi]
  refine cf (by simp) (ct (by simp;omega) ?_)
  simp only[elems_slice,hie]
  refine bdS (fileDo_spec s.files[i] o s.floor s.last hf ho) ?_
  generalize hR:fileDo shaL s.files[i] o s.floor=R
  by_cases h1:R.2.2=0
  ·rw[if_pos h1]
   refine cf (by show neI R.2.2 0=false;simpa using h1) (bdS (clone_files s.nn _ (fun h=>by rw[hs.nil h];rfl) (by simp;omega)) ?_)
   by_cases h6:o.kind=6
   ·rw[if_pos h6]
    refine ct (by show eqI o.kind 6=true;simpa using h6) ?_
    have had:ad .i64 (i:Int) 1=((i+1:Nat):Int):=by rw[ad64 (by omega) (by omega)];rfl
    simp only[i_int,elems_slice,nn_slice,had,Int.toNat_natCast,Nat.sub_zero,Nat.zero_add,List.length_map]
    refine ct ?_ (cf (by simp;omega) (ct ?_ (ct ?_ (ct ?_ (ct ?_ ?_)))))
    ·simp;omega
    ·simp;omega
    ·simp;omega
    ·simp;omega
    ·simp[ap];omega
    ·rw[del_row (i:=i) (by simpa using hi) rfl (by rw[List.take_of_length_le];simp) rfl rfl,eraseIdx_map]
     rfl
   ·rw[if_neg h6]
    refine cf (by show eqI o.kind 6=false;simpa using h6) (ct (by simp;omega) ?_)
    have e1:(((s.files.map Fl.enc).set (0+((di (i:Int)).i).toNat) R.1.enc).drop 0).take (s.files.map Fl.enc).length=(s.files.set i R.1).map Fl.enc:=by
     have:0+((di (i:Int)).i).toNat=i:=by simp
     rw[this]
     exact row_set (by simp)
    exact congrArg (fun l=>some (D.tup [da [dl s.nn l,di s.last,di s.floor],(An.enc ⟨0,(R.1.data.size:Int),bs [],zeroF,false,[]⟩),dl true [R.2.1.enc]])) e1
  ·rw[if_neg h1]
   exact ct (by show neI R.2.2 0=true;simpa using h1) (stay_enc s R.2.2)
end Go.AM.SZ
namespace Go.AM.SZ
open Go Go.AM
def x64_3e0 (s:F15.S64_3):F15.X64_3:=.e0 s.n44 s.n45 s.n46 s.n47 s.i48 s.i49 s.d50 s.d51 s.b52 s.l53 s.i54 s.i55 s.i56 s.i57 s.s58 s.i59 s.s60 s.s61 s.b62 s.i63 s.b64 s.l65 s.b66 s.l67 s.d68 s.d69 s.n70 s.n71 s.i72 s.i73 s.s74 s.i75 s.s76 s.s77 s.b78 s.i79 s.b80 s.l81 s.b82 s.l83 s.b84 s.l85 s.b86 s.l87
def x45_2e0 (s:F15.S45_2) (r133:D):F15.X45_2:=.e0 s.n89 s.n90 s.i91 s.i92 s.d93 s.d94 s.b95 s.l96 s.i97 s.i98 s.i99 s.i100 s.s101 s.i102 s.s103 s.s104 s.b105 s.i106 s.b107 s.l108 s.b109 s.l110 s.d111 s.d112 s.n113 s.n114 s.i115 s.i116 s.s117 s.i118 s.s119 s.s120 s.b121 s.i122 s.b123 s.l124 s.b125 s.l126 s.b127 s.l128 s.b129 s.l130 s.b131 s.l132 r133
def x45_2e1 (s:F15.S45_2):F15.X45_2:=.e1 s.n89 s.n90 s.i91 s.i92 s.d93 s.d94 s.b95 s.l96 s.i97 s.i98 s.i99 s.i100 s.s101 s.i102 s.s103 s.s104 s.b105 s.i106 s.b107 s.l108 s.b109 s.l110 s.d111 s.d112 s.n113 s.n114 s.i115 s.i116 s.s117 s.i118 s.s119 s.s120 s.b121 s.i122 s.b123 s.l124 s.b125 s.l126 s.b127 s.l128 s.b129 s.l130 s.b131 s.l132
def x112_5e0 (s:F15.S112_5):F15.X112_5:=.e0 s.n134 s.n135 s.i136 s.i137 s.d138 s.d139 s.b140 s.l141 s.i142 s.i143 s.i144 s.i145 s.s146 s.i147 s.s148 s.s149 s.b150 s.i151 s.b152 s.l153 s.b154 s.l155 s.d156 s.d157 s.n158 s.n159 s.i160 s.i161 s.s162 s.i163 s.s164 s.s165 s.b166 s.i167 s.b168 s.l169 s.b170 s.l171 s.b172 s.l173 s.b174 s.l175 s.b176 s.l177 s.d178
def x67_3e0 (s:F15.S67_3):F15.X67_3:=.e0 s.n186 s.n187 s.d188 s.i189 s.i190 s.d191 s.d192 s.b193 s.l194 s.i195 s.i196 s.i197 s.i198 s.s199 s.i200 s.s201 s.s202 s.b203 s.i204 s.b205 s.l206 s.b207 s.l208 s.d209 s.d210 s.b211 s.l212 s.i213 s.i214 s.s215 s.i216 s.s217 s.s218 s.b219 s.i220 s.b221 s.l222 s.b223 s.l224 s.b225 s.l226
def x141_2e0 (s:F15.S141_2):F15.X141_2:=.e0 s.n227 s.n228 s.i229 s.i230 s.i231 s.i232 s.d233 s.d234 s.b235 s.l236 s.i237 s.i238 s.i239 s.i240 s.s241 s.i242 s.s243 s.s244 s.b245 s.i246 s.b247 s.l248 s.b249 s.l250 s.d251 s.d252 s.b253 s.l254 s.i255 s.i256 s.s257 s.i258 s.s259 s.s260 s.b261 s.i262 s.b263 s.l264 s.b265 s.l266 s.b267 s.l268
def x150_1e0 (s:F15.S150_1):F15.X150_1:=.e0 s.n269 s.n270 s.i271 s.i272 s.i273 s.d274 s.d275 s.b276 s.l277 s.i278 s.i279 s.i280 s.i281 s.s282 s.i283 s.s284 s.s285 s.b286 s.i287 s.b288 s.l289 s.b290 s.l291 s.d292 s.d293 s.b294 s.l295 s.i296 s.i297 s.s298 s.i299 s.s300 s.s301 s.b302 s.i303 s.b304 s.l305 s.b306 s.l307 s.b308 s.l309
def x150_4e0 (s:F15.S150_4) (r352:D):F15.X150_4:=.e0 s.n310 s.n311 s.i312 s.i313 s.i314 s.i315 s.d316 s.d317 s.b318 s.l319 s.i320 s.i321 s.i322 s.i323 s.s324 s.i325 s.s326 s.s327 s.b328 s.i329 s.b330 s.l331 s.b332 s.l333 s.d334 s.d335 s.b336 s.l337 s.i338 s.i339 s.s340 s.i341 s.s342 s.s343 s.b344 s.i345 s.b346 s.l347 s.b348 s.l349 s.b350 s.l351 r352
def x150_4e1 (s:F15.S150_4):F15.X150_4:=.e1 s.n310 s.n311 s.i312 s.i313 s.i314 s.i315 s.d316 s.d317 s.b318 s.l319 s.i320 s.i321 s.i322 s.i323 s.s324 s.i325 s.s326 s.s327 s.b328 s.i329 s.b330 s.l331 s.b332 s.l333 s.d334 s.d335 s.b336 s.l337 s.i338 s.i339 s.s340 s.i341 s.s342 s.s343 s.b344 s.i345 s.b346 s.l347 s.b348 s.l349 s.b350 s.l351
def x141_7e0 (s:F15.S141_7):F15.X141_7:=.e0 s.n353 s.n354 s.i355 s.i356 s.d357 s.d358 s.b359 s.l360 s.i361 s.i362 s.i363 s.i364 s.s365 s.i366 s.s367 s.s368 s.b369 s.i370 s.b371 s.l372 s.b373 s.l374 s.d375 s.d376 s.b377 s.l378 s.i379 s.i380 s.s381 s.i382 s.s383 s.s384 s.b385 s.i386 s.b387 s.l388 s.b389 s.l390 s.b391 s.l392
theorem due_spec (nn:Bool) (l:List Fl) (floor:Int) (hl:l.length≤1048576):F111.s FUEL (dl nn (l.map Fl.enc)) floor=some (dl (!(dueL l floor).isEmpty) ((dueL l floor).map di)):=by
 unfold F111.s
 refine goS_rule (fun t:F111.S149_1=>∃k:Nat,t=⟨dl nn (l.map Fl.enc),nI l.length,(k:Int),0,(dueL (l.take k) floor).length,dl nn (l.map Fl.enc),floor,!(dueL (l.take k) floor).isEmpty,(dueL (l.take k) floor).map di⟩∧k≤l.length) (fun t=>l.length-t.i3.toNat) (fun o=>o=some (dl (!(dueL l floor).isEmpty) ((dueL l floor).map di))) ?_ _ _ ⟨0,by simp[dueL],by omega⟩ (by simp[FUEL];omega)
 rintro _ rec ⟨k,rfl,hk⟩ hrec
 have hdl:(dueL (l.take k) floor).length≤k:=by
  unfold dueL
  rw[List.length_map]
  exact Nat.le_trans (List.length_filter_le _ _) (by simp;omega)
 simp only[F111.st149_1]
 by_cases h1:k<l.length
 ·have hadd:ad .i64 (k:Int) 1=((k+1:Nat):Int):=by rw[ad64 (by omega) (by omega)];rfl
  have htk:l.take (k+1)=l.take k++[l[k]]:=by rw[List.take_succ_eq_append_getElem h1]
  refine ct (by simp;omega) (ct (by simp;omega) ?_)
  simp only[elems_slice,Int.toNat_natCast,ix_map h1]
  refine bdS (may_spec l[k] floor) ?_
  by_cases h2:mayN l[k] floor=0
  ·have hd:dueL (l.take (k+1)) floor=dueL (l.take k) floor++[l[k].id]:=by
    unfold dueL;rw[htk,List.filter_append,List.map_append];congr 1;simp[h2]
   refine ct (by show eqI (mayN l[k] floor) 0=true;simpa using h2) (ct (by simp;omega) ?_)
   rw[hadd]
   refine hrec _ ⟨k+1,?_,by omega⟩ (by dsimp only;omega)
   rw[hd,F111.S149_1.mk.injEq]
   refine⟨rfl,rfl,rfl,rfl,by simp,rfl,rfl,by simp,?_⟩
   rw[List.map_append,ap,List.drop_zero,List.take_of_length_le (by simp)]
   rfl
  ·have hd:dueL (l.take (k+1)) floor=dueL (l.take k) floor:=by
    unfold dueL;rw[htk,List.filter_append];simp[h2]
   refine cf (by show eqI (mayN l[k] floor) 0=false;simpa using h2) ?_
   rw[hadd]
   refine hrec _ ⟨k+1,?_,by omega⟩ (by dsimp only;omega)
   rw[hd]
 ·refine cf (by simp;omega) ?_
  have:l.take k=l:=List.take_of_length_le (by omega)
  rw[this]
  exact ct (by simp) rfl
theorem loop70 (ids:List Int) (hl:ids.length≤1048576) (s0:F15.S64_3) (h46:s0.n46=0) (h47:s0.n47=ids.length) (h48:s0.i48=(ids.length:Int)) (h85:s0.l85=ids.map di) (h49:s0.i49=0) (h70:s0.n70=0) (h71:s0.n71=0) (h86:s0.b86=false) (h87:s0.l87=[])
  (K:F15.X64_3→Option D) (R:Option D) (hK:K (x64_3e0 { s0 with i49:=(ids.length:Int),n71:=ids.length,b86:=!ids.isEmpty,l87:=(ids.map delEv).map Ev.enc })=R):goS (F15.st64_3 FUEL) FUEL s0 K=R:=by
 refine goS_rule (fun t:F15.S64_3=>∃k:Nat,t = { s0 with i49:=(k:Int),n71:=k,b86:=!(ids.take k).isEmpty,l87:=((ids.take k).map delEv).map Ev.enc }∧k≤ids.length) (fun t=>ids.length-t.i49.toNat) (fun o=>o=R) ?_ _ _ ⟨0,?_,by omega⟩ (by rw[h49];simp[FUEL];omega)
 ·rintro _ rec ⟨k,rfl,hk⟩ hrec
  simp only[F15.st64_3,h46,h47,h48,h85,h70]
  by_cases h1:k<ids.length
  ·have hadd:ad .i64 (k:Int) 1=((k+1:Nat):Int):=by rw[ad64 (by omega) (by omega)];rfl
   have htk:ids.take (k+1)=ids.take k++[ids[k]]:=by rw[List.take_succ_eq_append_getElem h1]
   refine ct (by simp;omega) (ct (by simp;omega) (ct (by simp;omega) ?_))
   rw[hadd]
   refine hrec _ ⟨k+1,?_,by omega⟩ ?_
   rotate_left
   ·simp;omega
   rw[F15.S64_3.mk.injEq]
   simp only[h46,h47,h48,h85,h70,true_and,and_true]
   refine⟨?_,?_⟩
   ·rw[htk];cases ids.take k<;>rfl
   ·rw[htk]
    simp only[List.map_append,List.map_cons,List.map_nil,ap,List.drop_zero]
    rw[List.take_of_length_le (by simp;omega)]
    congr 1
    have e:ix (ids.map di) (0+(Int.toNat (k:Int)))=di ids[k]:=by rw[ix_map (by simpa using h1)];simp
    rw[e]
    rfl
  ·have hkk:k=ids.length:=by omega
   refine cf (by simp;omega) ?_
   subst hkk
   rw[List.take_length]
   unfold x64_3e0 at hK
   simp only[h46,h47,h48,h85,h70] at hK ⊢
   exact hK
 ·cases s0
  simp only at h49 h71 h86 h87
  subst h49 h71 h86 h87
  simp
def dueB (floor:Int) (f:Fl):Bool:=decide (mayN f floor=0)
theorem loop38 (fs:List Fl) (floor:Int) (hl:fs.length≤1048576) (s0:F15.S45_2) (h89:s0.n89=0) (h90:s0.n90=fs.length) (h91:s0.i91=(fs.length:Int)) (h92:s0.i92=0) (h132:s0.l132=fs.map Fl.enc) (h111:(s0.d111.at 2).i=floor)
  (K:F15.X45_2→Option D) (R:Option D) (hK0:∀i,fs.findIdx? (dueB floor)=some i→K (x45_2e0 { s0 with i92:=(i:Int) } (di 0))=R) (hK1:fs.findIdx? (dueB floor)=none→K (x45_2e1 { s0 with i92:=(fs.length:Int) })=R):goS (F15.st45_2 FUEL) FUEL s0 K=R:=by
 refine goS_rule (fun t:F15.S45_2=>∃k:Nat,t = { s0 with i92:=(k:Int) }∧k≤fs.length∧∀i (h:i<fs.length),i<k→dueB floor fs[i]=false) (fun t=>fs.length-t.i92.toNat) (fun o=>o=R) ?_ _ _ ⟨0,by cases s0;simp only at h92;subst h92;rfl,by omega,by omega⟩ (by rw[h92];simp[FUEL];omega)
 rintro _ rec ⟨k,rfl,hk,hlt⟩ hrec
 simp only[F15.st45_2,h89,h90,h91,h132,h111]
 by_cases h1:k<fs.length
 ·have hadd:ad .i64 (k:Int) 1=((k+1:Nat):Int):=by rw[ad64 (by omega) (by omega)];rfl
  have e:ix (fs.map Fl.enc) (0+(Int.toNat (k:Int)))=fs[k].enc:=by rw[Nat.zero_add,Int.toNat_natCast,ix_map h1]
  refine ct (by simp;omega) (ct (by simp;omega) ?_)
  rw[e]
  refine bdS (may_spec fs[k] floor) ?_
  by_cases h2:mayN fs[k] floor=0
  ·refine ct (by show eqI (mayN fs[k] floor) 0=true;simpa using h2) ?_
   have:=hK0 k (findIdx_some_of h1 hlt (by simpa[dueB] using h2))
   unfold x45_2e0 at this
   simp only[h89,h90,h91,h132,h2] at this ⊢
   exact this
  ·refine cf (by show eqI (mayN fs[k] floor) 0=false;simpa using h2) ?_
   rw[hadd]
   refine hrec _ ⟨k+1,?_,by omega,?_⟩ ?_
   rotate_right
   ·simp;omega
   ·simp only[h89,h90,h91,h132]
   ·intro i hi hik
    by_cases hik':i=k
    ·subst hik';simpa[dueB] using h2
    ·exact hlt i hi (by omega)
 ·have hkk:k=fs.length:=by omega
  refine cf (by simp;omega) ?_
  subst hkk
  have:=hK1 (findIdx_none_of (fun i hi=>hlt i hi (by omega)))
  unfold x45_2e1 at this
  simp only[h89,h90,h91,h132] at this ⊢
  exact this
def keptL (floor:Int) (l:List Fl):List Fl:=l.filter fun f=>!dueB floor f
theorem loop96 (fs:List Fl) (floor:Int) (hl:fs.length≤1048576) (s0:F15.S112_5) (i:Nat) (hi:i<fs.length) (h134:s0.n134=0) (h135:s0.n135=fs.length) (h136:s0.i136=(i:Int)) (h137:s0.i137=((i+1:Nat):Int)) (h177:s0.l177=fs.map Fl.enc) (h156:(s0.d156.at 2).i=floor)
  (hfirst:∀j (h:j<fs.length),j<i→dueB floor fs[j]=false) (hdue:dueB floor fs[i]=true)
  (K:F15.X112_5→Option D) (R:Option D) (hK:∀L:List D,L.length=fs.length→L.take (keptL floor fs).length=(keptL floor fs).map Fl.enc→K (x112_5e0 { s0 with i136:=((keptL floor fs).length:Int),i137:=(fs.length:Int),l177:=L })=R):goS (F15.st112_5 FUEL) FUEL s0 K=R:=by
 have htake0:keptL floor (fs.take (i+1))=fs.take i:=by
  rw[List.take_succ_eq_append_getElem hi]
  unfold keptL
  rw[List.filter_append,List.filter_eq_self.2,List.filter_cons,if_neg (by simp[hdue])]
  ·simp
  ·intro f hf
   obtain⟨j,hj,rfl⟩:=List.getElem_of_mem hf
   simp only[List.length_take] at hj
   have:=hfirst j (by omega) (by omega)
   simp[this]
 refine goS_rule (fun t:F15.S112_5=>∃(k:Nat) (L:List D),t = { s0 with i136:=((keptL floor (fs.take k)).length:Int),i137:=(k:Int),l177:=L }∧k≤fs.length∧(keptL floor (fs.take k)).length<k∧L.length=fs.length∧L.take (keptL floor (fs.take k)).length=(keptL floor (fs.take k)).map Fl.enc∧L.drop k=(fs.map Fl.enc).drop k) (fun t=>fs.length-t.i137.toNat) (fun o=>o=R) ?_ _ _ ⟨i+1,fs.map Fl.enc,?_,by omega,?_,by simp,?_,rfl⟩ (by rw[h137];simp[FUEL];omega)
 ·rintro _ rec ⟨k,L,rfl,hk,hw,hL,ht,hd⟩ hrec
  simp only[F15.st112_5,h134,h135,h156]
  by_cases h1:k<fs.length
  ·have hadd:ad .i64 (k:Int) 1=((k+1:Nat):Int):=by rw[ad64 (by omega) (by omega)];rfl
   have hget:L[k]'(by omega)=fs[k].enc:=by
    have:=congrArg (fun l:List D=>l[0]?) hd
    simp only[List.getElem?_drop,Nat.add_zero,List.getElem?_map] at this
    rw[List.getElem?_eq_getElem (by omega),List.getElem?_eq_getElem h1] at this
    simpa using this
   have e:ix L (0+(Int.toNat (k:Int)))=fs[k].enc:=by rw[Nat.zero_add,Int.toNat_natCast,ix_eq (by omega),hget]
   have htk:fs.take (k+1)=fs.take k++[fs[k]]:=by rw[List.take_succ_eq_append_getElem h1]
   have hd':L.drop (k+1)=(fs.map Fl.enc).drop (k+1):=by
    rw[←List.drop_drop,←List.drop_drop,hd]
   refine ct (by simp;omega) (ct (by simp;omega) ?_)
   rw[e]
   refine bdS (may_spec fs[k] floor) ?_
   by_cases h2:mayN fs[k] floor=0
   ·have hkt:keptL floor (fs.take (k+1))=keptL floor (fs.take k):=by
     unfold keptL;rw[htk,List.filter_append];simp[dueB,h2]
    refine cf (by show (!eqI (mayN fs[k] floor) 0)=false;simpa using h2) ?_
    rw[hadd]
    refine hrec _ ⟨k+1,L,?_,by omega,by rw[hkt];omega,hL,by rw[hkt];exact ht,hd'⟩ ?_
    rotate_left
    ·simp;omega
    rw[hkt]
    simp only[h134,h135]
   ·have hkt:keptL floor (fs.take (k+1))=keptL floor (fs.take k)++[fs[k]]:=by
     unfold keptL;rw[htk,List.filter_append];simp[dueB,h2]
    have hadd2:ad .i64 ((keptL floor (fs.take k)).length:Int) 1=(((keptL floor (fs.take k)).length+1:Nat):Int):=by rw[ad64 (by omega) (by omega)];rfl
    refine ct (by show (!eqI (mayN fs[k] floor) 0)=true;simpa using h2) (ct (by simp;omega) ?_)
    rw[hadd,hadd2]
    refine hrec _ ⟨k+1,L.set (keptL floor (fs.take k)).length fs[k].enc,?_,by omega,by rw[hkt];simp;omega,by simpa using hL,?_,?_⟩ ?_
    rotate_right
    ·simp;omega
    ·rw[hkt]
     simp only[h134,h135,List.length_append,List.length_cons,List.length_nil,Nat.zero_add,Int.toNat_natCast]
    ·rw[hkt]
     simp only[List.length_append,List.length_cons,List.length_nil,Nat.zero_add,List.map_append,List.map_cons,List.map_nil]
     rw[List.take_succ_eq_append_getElem (by simp;omega),List.take_set_of_le (Nat.le_refl _),ht]
     simp
    ·rw[List.drop_set_of_lt (by omega),hd']
  ·have hkk:k=fs.length:=by omega
   subst hkk
   refine cf (by simp) ?_
   rw[List.take_length] at hw ht ⊢
   have:=hK L hL ht
   unfold x112_5e0 at this
   simp only[h134,h135] at this ⊢
   exact this
 ·cases s0
  simp only at h136 h137 h177
  subst h136 h137 h177
  rw[htake0]
  simp
  omega
 ·rw[htake0];simp;omega
 ·rw[htake0]
  rw[List.map_take]
  congr 1
  simp;omega
end Go.AM.SZ
namespace Go.AM.SZ
open Go Go.AM
theorem sweep_spec (s:St) (o:Mo) (hs:StOk s):F15.sweepS FUEL s.enc o.enc=some (sweepM s).enc:=by
 have hl:=hs.len
 have hdl:(dueL s.files s.floor).length≤12:=by
  unfold dueL
  rw[List.length_map]
  exact Nat.le_trans (List.length_filter_le _ _) hl
 unfold F15.sweepS
 have h0:s.enc.at 0=dl s.nn (s.files.map Fl.enc):=rfl
 have hfl:(s.enc.at 2).i=s.floor:=rfl
 rw[h0,hfl]
 refine bdS (due_spec s.nn s.files s.floor (by omega)) ?_
 refine loop70 (dueL s.files s.floor) (by omega) _ rfl (by simp) (by simp) rfl rfl rfl rfl rfl rfl _ _ ?_
 refine bdS (x:=dl s.nn (s.files.map Fl.enc)) (clone_files s.nn _ (fun h=>by rw[hs.nil h];rfl) (by simp;omega)) ?_
 refine loop38 s.files s.floor (by omega) _ rfl (by simp) (by simp) rfl rfl rfl _ _ (fun i hi=>?_) (fun hn=>?_)
 ·rw[List.findIdx?_eq_some_iff_getElem] at hi
  obtain⟨hil,hdue,hfirst⟩:=hi
  refine cf (by show eqI (i:Int) (-1)=false;simp) ?_
  refine loop96 s.files s.floor (by omega) _ i hil rfl (by simp) rfl ?_ rfl rfl (fun j hj hji=>by simpa using hfirst j hji) hdue _ _ (fun L hL hT=>?_)
  ·show ad .i64 (i:Int) 1=_
   rw[ad64 (by omega) (by omega)];rfl
  have hkl:(keptL s.floor s.files).length≤s.files.length:=List.length_filter_le _ _
  unfold x112_5e0
  dsimp only
  simp only[elems_slice,nn_slice,Int.toNat_natCast,List.length_map]
  refine ct (by simp[hL,hkl]) (ct (by simp[ap,rp,hL];omega) ?_)
  simp only[Nat.zero_add,Nat.add_zero,Nat.sub_zero,List.drop_zero]
  have e1:∀(Y Z:List D),List.take (keptL s.floor s.files).length (ap (ap (List.take (keptL s.floor s.files).length L) Y) Z)=(keptL s.floor s.files).map Fl.enc:=by
   intro Y Z
   rw[←hT]
   simp only[ap,List.append_assoc]
   rw[List.take_append_of_le_length (by simp;omega),List.take_take,Nat.min_self]
  have e2:List.take (dueL s.files s.floor).length (((dueL s.files s.floor).map delEv).map Ev.enc)=((dueL s.files s.floor).map delEv).map Ev.enc:=List.take_of_length_le (by simp)
  rw[e1,e2]
  rfl
 ·rw[List.findIdx?_eq_none_iff] at hn
  have hids:dueL s.files s.floor=[]:=by
   unfold dueL
   rw[List.map_eq_nil_iff,List.filter_eq_nil_iff]
   intro f hf
   have:=hn f hf
   simpa[dueB] using this
  have hkept:(s.files.filter fun f=>!decide (mayN f s.floor=0))=s.files:=by
   rw[List.filter_eq_self]
   intro f hf
   have:=hn f hf
   simpa[dueB] using this
  unfold x45_2e1
  dsimp only
  simp only[elems_slice,nn_slice,List.length_map,List.drop_zero]
  have e1:List.take s.files.length (s.files.map Fl.enc)=s.files.map Fl.enc:=List.take_of_length_le (by simp)
  have e2:List.take (dueL s.files s.floor).length (((dueL s.files s.floor).map delEv).map Ev.enc)=((dueL s.files s.floor).map delEv).map Ev.enc:=List.take_of_length_le (by simp)
  rw[e1,e2]
  unfold sweepM Res.enc
  rw[hkept]
  rfl
end Go.AM.SZ
namespace Go.AM.SZ
open Go Go.AM
theorem cmp_spec (a b:ByteArray) (ha:a.size≤1048576) (hb:b.size≤1048576):∃n:Int,F116.s FUEL a b=some (di n)∧(n<0↔lessB a b=true):=by
 unfold F116.s
 rw[less_spec a b ha hb,bd_some]
 cases h:lessB a b with
 | true=>exact⟨-1,ct rfl rfl,by simp⟩
 | false=>
  rw[show ∀x y:Option D,cond (db false).b x y=y from fun _ _=>rfl,less_spec b a hb ha,bd_some]
  cases lessB b a with
  | true=>exact⟨1,ct rfl rfl,by simp⟩
  | false=>exact⟨0,cf rfl rfl,by simp⟩
theorem loop73 (nn:Bool) (fs:List Fl) (hl:fs.length≤1048576) (s0:F15.S67_3) (h186:s0.n186=0) (h187:s0.n187=0) (h188:s0.d188=dl nn (fs.map Fl.enc)) (h189:s0.i189=(fs.length:Int)) (h190:s0.i190=0) (h225:s0.b225=false) (h226:s0.l226=[])
  (K:F15.X67_3→Option D) (R:Option D) (hK:K (x67_3e0 { s0 with n187:=fs.length,i190:=(fs.length:Int),b225:=!fs.isEmpty,l226:=(fs.map (·.name)).map dS })=R):goS (F15.st67_3 FUEL) FUEL s0 K=R:=by
 refine goS_rule (fun t:F15.S67_3=>∃k:Nat,t = { s0 with n187:=k,i190:=(k:Int),b225:=!(fs.take k).isEmpty,l226:=((fs.take k).map (·.name)).map dS }∧k≤fs.length) (fun t=>fs.length-t.i190.toNat) (fun o=>o=R) ?_ _ _ ⟨0,?_,by omega⟩ (by rw[h190];simp[FUEL];omega)
 ·rintro _ rec ⟨k,rfl,hk⟩ hrec
  simp only[F15.st67_3,h186,h188,h189]
  by_cases h1:k<fs.length
  ·have hadd:ad .i64 (k:Int) 1=((k+1:Nat):Int):=by rw[ad64 (by omega) (by omega)];rfl
   have htk:fs.take (k+1)=fs.take k++[fs[k]]:=by rw[List.take_succ_eq_append_getElem h1]
   refine ct (by simp;omega) (ct (by simp;omega) (ct (by simp;omega) ?_))
   rw[hadd]
   refine hrec _ ⟨k+1,?_,by omega⟩ ?_
   rotate_left
   ·simp;omega
   rw[F15.S67_3.mk.injEq]
   simp only[h186,h188,h189,true_and,and_true]
   refine⟨?_,?_⟩
   ·rw[htk];cases fs.take k<;>rfl
   ·rw[htk]
    simp only[List.map_append,List.map_cons,List.map_nil,ap,List.drop_zero,elems_slice,Int.toNat_natCast]
    rw[List.take_of_length_le (by simp;omega),ix_map h1]
    rfl
  ·have hkk:k=fs.length:=by omega
   refine cf (by simp;omega) ?_
   subst hkk
   rw[List.take_length]
   unfold x67_3e0 at hK
   simp only[h186,h188,h189] at hK ⊢
   exact hK
 ·cases s0
  simp only at h187 h190 h225 h226
  subst h187 h190 h225 h226
  simp
theorem rise_mid {A B:List ByteArray} {x:ByteArray} (h:riseB (A++B)) (hB:∀b∈B,lessB x b=true) (hA:∀a∈A,lessB a x=true):riseB (A++x::B):=by
 unfold riseB at h ⊢
 rw[List.pairwise_append] at h ⊢
 refine⟨h.1,List.pairwise_cons.2 ⟨hB,h.2.1⟩,fun a ha b hb=>?_⟩
 rcases List.mem_cons.1 hb with rfl | hb
 ·exact hA a ha
 ·exact h.2.2 a ha b hb
theorem loop113_4 (A B rest:List ByteArray) (x:ByteArray) (n:Nat) (hn:n=(A++x::B++rest).length) (hn12:n≤1048576) (hsz:∀y∈A++x::B++rest,y.size≤1048576) (hrise:riseB (A++B)) (hxB:∀b∈B,lessB x b=true) (hxA:x∉A)
  (s0:F15.S150_4) (h310:s0.n310=0) (h311:s0.n311=n) (h312:s0.i312=0) (h315:s0.i315=(A.length:Int)) (h351:s0.l351=(A++x::B++rest).map dS)
  (K:F15.X150_4→Option D) (R:Option D) (hK:∀A' B':List ByteArray,riseB (A'++x::B')→A'++B'=A++B→(∀r,K (x150_4e0 { s0 with i315:=(A'.length:Int),l351:=(A'++x::B'++rest).map dS } r)=R)∧K (x150_4e1 { s0 with i315:=(A'.length:Int),l351:=(A'++x::B'++rest).map dS })=R) :
  goS (F15.st150_4 FUEL) FUEL s0 K=R:=by
 refine goS_rule (fun t:F15.S150_4=>∃A' B':List ByteArray,t = { s0 with i315:=(A'.length:Int),l351:=(A'++x::B'++rest).map dS }∧A'++B'=A++B∧(∀b∈B',lessB x b=true)∧x∉A') (fun t=>t.i315.toNat) (fun o=>o=R) ?_ _ _ ⟨A,B,?_,rfl,hxB,hxA⟩ (by rw[h315];simp only[List.length_append,List.length_cons] at hn;simp[FUEL];omega)
 ·rintro _ rec ⟨A',B',rfl,hAB,hB',hA'⟩ hrec
  have hrise':riseB (A'++B'):=by rw[hAB];exact hrise
  have hlen:A'.length+B'.length=A.length+B.length:=by have:=congrArg List.length hAB;simpa using this
  have hmem:∀y,y∈A'++B'↔y∈A++B:=fun y=>by rw[hAB]
  simp only[F15.st150_4,h310,h311,h312]
  simp only[List.length_append,List.length_cons] at hn
  rcases List.eq_nil_or_concat A' with rfl | ⟨A0,y,rfl⟩
  ·refine cf (by simp) ?_
   have:=(hK [] B' (rise_mid (A:=[]) hrise' hB' (by simp)) hAB).2
   unfold x150_4e1 at this
   simp only[h310,h311,h312] at this ⊢
   exact this
  ·simp only[List.concat_eq_append] at *
   have hxs:x.size≤1048576:=hsz x (by simp)
   have hys:y.size≤1048576:=by
    have:=(hmem y).1 (by simp)
    exact hsz y (by simp at this ⊢;rcases this with h | h<;>simp[h])
   have hlA:((A0++[y]).length:Int)=((A0.length+1:Nat):Int):=by simp
   rw[hlA]
   have hsub:sb .i64 ((A0.length+1:Nat):Int) 1=(A0.length:Int):=by
    simp only[List.length_append,List.length_cons,List.length_nil] at hlen
    rw[sb64 (by omega) (by omega)];omega
   have hL:((A0++[y])++x::B'++rest).map dS=A0.map dS++dS y::dS x::(B'++rest).map dS:=by simp
   have e1:ix (A0.map dS++dS y::dS x::(B'++rest).map dS) (0+(Int.toNat ((A0.length+1:Nat):Int)))=dS x:=by
    rw[ix_eq (by simp)]
    simp[List.getElem_append]
   have e2:ix (A0.map dS++dS y::dS x::(B'++rest).map dS) (0+(Int.toNat (A0.length:Int)))=dS y:=by
    rw[ix_eq (by simp)]
    simp[List.getElem_append]
   simp only[List.length_append,List.length_cons,List.length_nil] at hlen
   rw[hL,hsub,e1,e2]
   refine ct (by simp only[gtI_t];omega) (ct (by simp only[inb_t];omega) (ct (by simp only[inb_t];omega) ?_))
   obtain⟨c,hc1,hc2⟩:=cmp_spec x y hxs hys
   refine bdS hc1 ?_
   by_cases hlt:lessB x y=true
   ·refine ct (by have:=hc2.2 hlt;simpa using this) (ct (by simp only[inb_t];omega) (ct (by simp only[inb_t];omega) (ct (by simp only[inb_t];omega) (ct (by simp only[inb_t];omega) ?_))))
    have e3:((A0.map dS++dS y::dS x::(B'++rest).map dS).set (0+(Int.toNat ((A0.length+1:Nat):Int))) (dS y)).set (0+(Int.toNat (A0.length:Int))) (dS x)=(A0++x::(y::B')++rest).map dS:=by
     simp[List.set_append]
    rw[e3]
    refine hrec _ ⟨A0,y::B',?_,by rw[←hAB];simp,?_,fun h=>hA' (by simp[h])⟩ ?_
    ·simp only[h310,h311,h312]
    ·intro b hb
     rcases List.mem_cons.1 hb with rfl | hb
     ·exact hlt
     ·exact hB' b hb
    ·simp
   ·refine cf (by have:¬c<0:=fun h=>hlt (hc2.1 h);simp;omega) ?_
    have hyx:lessB y x=true:=less_of_not (by simpa using hlt) (fun e=>hA' (by simp[e]))
    have hall:∀a∈A0++[y],lessB a x=true:=by
     intro a ha
     rcases List.mem_append.1 ha with ha | ha
     ·have hp:=(List.pairwise_append.1 hrise').1
      exact less_trans ((List.pairwise_append.1 hp).2.2 a ha y (by simp)) hyx
     ·simp only[List.mem_singleton] at ha;subst ha;exact hyx
    have:=(hK (A0++[y]) B' (rise_mid hrise' hB' hall) hAB).1 (di c)
    unfold x150_4e0 at this
    simp only[h310,h311,h312] at this ⊢
    rw[hL,hlA] at this
    exact this
 ·cases s0
  simp only at h315 h351
  subst h315 h351
  rfl
theorem loop113_1 (names:List ByteArray) (n:Nat) (hn:n=names.length) (hn12:n≤1000000) (hsz:∀y∈names,y.size≤1048576) (hnd:names.Nodup)
  (s0:F15.S150_1) (h269:s0.n269=0) (h270:s0.n270=n) (h271:s0.i271=0) (h272:s0.i272=(n:Int)) (h273:s0.i273=1) (h309:s0.l309=names.map dS)
  (K:F15.X150_1→Option D) (R:Option D) (hK:∀i:Int,K (x150_1e0 { s0 with i273:=i,l309:=(sortN names).map dS })=R):goS (F15.st150_1 FUEL) FUEL s0 K=R:=by
 refine goS_rule (fun t:F15.S150_1=>∃(k:Nat) (l:List ByteArray),t = { s0 with i273:=(k:Int),l309:=l.map dS }∧1≤k∧(k≤n∨k=1)∧l.Perm names∧riseB (l.take k)) (fun t=>n-t.i273.toNat) (fun o=>o=R) ?_ _ _ ⟨1,names,?_,by omega,.inr rfl,List.Perm.refl _,?_⟩ (by rw[h273];simp[FUEL];omega)
 ·rintro _ rec ⟨k,l,rfl,hk1,hk2,hp,hr⟩ hrec
  have hll:l.length=n:=by rw[hn];exact hp.length_eq
  have hlnd:l.Nodup:=hp.nodup_iff.2 hnd
  simp only[F15.st150_1,h269,h270,h271,h272]
  by_cases h1:k<n
  ·have hadd:ad .i64 (k:Int) 1=((k+1:Nat):Int):=by rw[ad64 (by omega) (by omega)];rfl
   have hsplit:l=l.take k++l[k]::[]++l.drop (k+1):=by simp
   refine ct (by simp;omega) ?_
   have hxA:l[k]∉l.take k:=by
    intro h
    obtain⟨j,hj,he⟩:=List.getElem_of_mem h
    simp only[List.length_take] at hj
    rw[List.getElem_take] at he
    exact(List.pairwise_iff_getElem.1 hlnd) j k (by omega) (by omega) (by omega) he
   refine loop113_4 (l.take k) [] (l.drop (k+1)) l[k] n (by rw[←hsplit];exact hll.symm) (by omega) (fun y hy=>hsz y (hp.mem_iff.1 (by rw[←hsplit] at hy;exact hy))) (by simpa using hr) (by simp) hxA _ rfl rfl rfl (by show (k:Int)=_;simp;omega) (by show l.map dS=_;rw[←hsplit]) _ _ (fun A' B' hr' hab=>?_)
   ·have hlen:A'.length+B'.length=k:=by have:=congrArg List.length hab;simp at this;omega
    have hperm:(A'++l[k]::B'++l.drop (k+1)).Perm l:=by
     have h2:(A'++l[k]::B').Perm (l.take k++[l[k]]):=by
      refine List.perm_middle.trans (((List.Perm.of_eq hab).cons _).trans ?_)
      rw[List.append_nil]
      exact(List.perm_append_singleton _ _).symm
     have h3:=h2.append_right (l.drop (k+1))
     have h4:l.take k++[l[k]]++l.drop (k+1)=l:=by simp
     rw[h4] at h3
     exact h3
    have hfin:rec { s0 with i273:=ad .i64 (k:Int) 1,l309:=(A'++l[k]::B'++l.drop (k+1)).map dS }=R:=by
     rw[hadd]
     refine hrec _ ⟨k+1,A'++l[k]::B'++l.drop (k+1),rfl,by omega,by omega,hperm.trans hp,?_⟩ ?_
     ·rw[List.take_append_of_le_length (by simp;omega),List.take_of_length_le (by simp;omega)]
      exact hr'
     ·simp;omega
    rw[h269,h270,h271,h272] at hfin
    exact⟨fun r=>hfin,hfin⟩
  ·refine cf (by simp;omega) ?_
   have hfull:l.take k=l:=List.take_of_length_le (by omega)
   rw[hfull] at hr
   have hl:l=sortN names:=rise_eq hr (sortN_rise hnd) (hp.trans (sortN_perm names).symm)
   subst hl
   have:=hK (k:Int)
   unfold x150_1e0 at this
   simp only[h269,h270,h271,h272] at this ⊢
   exact this
 ·cases s0
  simp only at h273 h309
  subst h273 h309
  rfl
 ·unfold riseB
  cases names with
  | nil=>simp
  | cons a l=>simp
end Go.AM.SZ
namespace Go.AM.SZ
open Go Go.AM
theorem loop108_2 (s0:F15.S141_2) (h:s0.i229<s0.i232) (K:F15.X141_2→Option D) (R:Option D) (hK:K (x141_2e0 s0)=R):goS (F15.st141_2 FUEL) FUEL s0 K=R:=by
 refine goS_rule (fun t:F15.S141_2=>t=s0) (fun _=>0) (fun o=>o=R) ?_ _ _ rfl (by simp)
 rintro s1 rec rfl hrec
 cases s1
 simp only[F15.st141_2]
 exact cf (by simpa using h) hK
theorem loop108_7 (s0:F15.S141_7) (h:s0.i355≤s0.i356) (K:F15.X141_7→Option D) (R:Option D) (hK:K (x141_7e0 s0)=R):goS (F15.st141_7 FUEL) FUEL s0 K=R:=by
 refine goS_rule (fun t:F15.S141_7=>t=s0) (fun _=>0) (fun o=>o=R) ?_ _ _ rfl (by simp)
 rintro s1 rec rfl hrec
 cases s1
 simp only[F15.st141_7]
 exact cf (by simpa using h) hK
theorem names_nodup {s:St} (hs:StOk s):(s.files.map (·.name)).Nodup:=by
 unfold List.Nodup
 rw[List.pairwise_map]
 exact hs.names
theorem list_spec (s:St) (o:Mo) (hs:StOk s):F15.listS FUEL s.enc o.enc=some (listM s).enc:=by
 have hl:=hs.len
 unfold F15.listS
 have h0:s.enc.at 0=dl s.nn (s.files.map Fl.enc):=rfl
 rw[h0]
 refine loop73 s.nn s.files (by omega) _ rfl rfl rfl (by simp) rfl rfl rfl _ _ ?_
 unfold x67_3e0
 dsimp only
 refine loop108_2 _ (by simp;omega) _ _ ?_
 unfold x141_2e0
 dsimp only
 refine loop113_1 (s.files.map (·.name)) s.files.length (by simp) (by omega) (fun y hy=>?_) (names_nodup hs) _ rfl rfl rfl (by simp) ?_ rfl _ _ (fun i=>?_)
 ·obtain⟨f,hf,rfl⟩:=List.mem_map.1 hy
  have:=(hs.files f hf).nsz;omega
 ·show ad .i64 0 1=1
  rw[ad64 (by omega) (by omega)];rfl
 unfold x150_1e0
 dsimp only
 refine loop108_7 _ (by simp;omega) _ _ ?_
 unfold x141_7e0
 dsimp only
 have e:List.take s.files.length (List.drop 0 ((sortN (s.files.map (·.name))).map dS))=(sortN (s.files.map (·.name))).map dS:=by
  rw[List.drop_zero,List.take_of_length_le]
  have:=(sortN_perm (s.files.map (·.name))).length_eq
  simp at this ⊢;omega
 rw[e]
 rfl
theorem create_spec (s:St) (o:Mo) (hs:StOk s) (ho:MoOk o):F15.createS FUEL s.enc o.enc=some (createM s o).enc:=by
 have hl:=hs.len
 have l0:=hs.last0
 have l1:=hs.last1
 unfold F15.createS createM
 have hn:(o.enc.at 1).s=o.name:=rfl
 have h0:s.enc.at 0=dl s.nn (s.files.map Fl.enc):=rfl
 have hla:(s.enc.at 1).i=s.last:=rfl
 have hon:=ho.name
 rw[hn,h0,hla]
 refine bdS (name_spec o.name (by omega)) ?_
 cases hv:nameB o.name with
 | false=>rw[if_pos rfl];exact ct rfl (stay_enc s 2)
 | true=>
  rw[if_neg (by simp)]
  refine cf rfl (bdS (find_specM s o.name (by omega)) ?_)
  by_cases h1:0≤findI (fun f:Fl=>decide (f.name=o.name)) s.files
  ·rw[if_pos h1];exact ct (by simpa using h1) (stay_enc s 4)
  rw[if_neg h1]
  refine cf (by simp only[geI_f,i_int];omega) ?_
  by_cases h2:12≤s.files.length
  ·rw[if_pos h2];exact ct (by simp;omega) (stay_enc s 10)
  rw[if_neg h2]
  refine cf (by simp;omega) ?_
  by_cases h3:1099511627776≤s.last
  ·rw[if_pos h3];exact ct (by simpa using h3) (stay_enc s 10)
  rw[if_neg h3]
  refine cf (by simp;omega) ?_
  have hadd:ad .i64 s.last 1=s.last+1:=by rw[ad64 (by omega) (by omega)]
  have hnew:newF (s.last+1) o.name=(⟨s.last+1,o.name,bs [],false,0,false,[]⟩,0):=by
   unfold newF
   rw[if_neg (by simp[hv]),if_pos (by omega)]
  refine bdS (by rw[hadd];exact new_spec (s.last+1) o.name (by omega)) ?_
  rw[hnew]
  refine cf rfl (bdS (clone_files s.nn _ (fun h=>by rw[hs.nil h];rfl) (by simp;omega)) (ct (by simp;omega) ?_))
  have e:((ap (((s.files.map Fl.enc).drop 0).take (s.files.map Fl.enc).length) [Fl.enc ⟨s.last+1,o.name,bs [],false,0,false,[]⟩]).drop 0).take ((s.files.map Fl.enc).length+1)=(s.files++[(⟨s.last+1,o.name,bs [],false,0,false,[]⟩:Fl)]).map Fl.enc:=by
   rw[List.drop_zero,List.drop_zero,ap,List.take_of_length_le (l:=s.files.map Fl.enc) (Nat.le_refl _),List.take_of_length_le (by simp)]
   simp
  have e2:(s.nn||true)=true:=by simp
  refine Eq.trans ?_ (congrArg (fun l=>some (D.tup [da [dl true l,di (s.last+1),di s.floor],(An.enc ⟨0,s.last+1,bs [],zeroF,false,[]⟩),dl true [Ev.enc ⟨0,s.last+1,o.name,0,0,zeros⟩]])) e)
  show some (D.tup [da [dl (s.nn||true) _,_,_],_,_])=_
  rw[e2]
  rfl
theorem do_specM (s:St) (o:Mo) (hs:StOk s) (ho:MoOk o):F15.s FUEL s.enc o.enc=some (doM shaL s o).enc:=by
 have hl:=hs.len
 unfold F15.s
 by_cases hneg:o.kind<0
 ·have hR:doM shaL s o=stay s 1:=by unfold doM;rw[if_pos hneg]
  rw[hR]
  exact ct (by show ltI o.kind 0=true;simpa using hneg) (stay_enc s 1)
 refine cf (by show ltI o.kind 0=false;simp;omega) ?_
 by_cases hbig:12≤o.kind
 ·have hR:doM shaL s o=stay s 1:=by unfold doM;rw[if_neg hneg,if_pos hbig]
  rw[hR]
  exact ct (by show geI o.kind 12=true;simpa using hbig) (stay_enc s 1)
 refine cf (by show geI o.kind 12=false;simp;omega) (ct (by show inb o.kind 12=true;simp;omega) ?_)
 by_cases h0:o.kind=0
 ·have hR:doM shaL s o=createM s o:=by
   unfold doM
   repeat (first | rw[if_neg (by omega)] | rw[if_pos (by omega)])
  rw[hR]
  refine ct (by show (o.kind.toNat==0)=true;rw[h0];rfl) ?_
  exact create_spec s o hs ho
 refine cf (by show (o.kind.toNat==0)=false;simp;omega) ?_
 by_cases h1:o.kind=1
 ·have hR:doM shaL s o=changeM shaL s o:=by
   unfold doM
   repeat (first | rw[if_neg (by omega)] | rw[if_pos (by omega)])
  rw[hR]
  refine ct (by show ((o.kind.toNat-1)==0)=true;rw[h1];rfl) ?_
  exact change_spec s o hs ho
 refine cf (by show ((o.kind.toNat-1)==0)=false;simp;omega) ?_
 by_cases h2:o.kind=2
 ·have hR:doM shaL s o=changeM shaL s o:=by
   unfold doM
   repeat (first | rw[if_neg (by omega)] | rw[if_pos (by omega)])
  rw[hR]
  refine ct (by show (((o.kind.toNat-1)-1)==0)=true;rw[h2];rfl) ?_
  exact change_spec s o hs ho
 refine cf (by show (((o.kind.toNat-1)-1)==0)=false;simp;omega) ?_
 by_cases h3:o.kind=3
 ·have hR:doM shaL s o=changeM shaL s o:=by
   unfold doM
   repeat (first | rw[if_neg (by omega)] | rw[if_pos (by omega)])
  rw[hR]
  refine ct (by show ((((o.kind.toNat-1)-1)-1)==0)=true;rw[h3];rfl) ?_
  exact change_spec s o hs ho
 refine cf (by show ((((o.kind.toNat-1)-1)-1)==0)=false;simp;omega) ?_
 by_cases h4:o.kind=4
 ·have hR:doM shaL s o=changeM shaL s o:=by
   unfold doM
   repeat (first | rw[if_neg (by omega)] | rw[if_pos (by omega)])
  rw[hR]
  refine ct (by show (((((o.kind.toNat-1)-1)-1)-1)==0)=true;rw[h4];rfl) ?_
  exact change_spec s o hs ho
 refine cf (by show (((((o.kind.toNat-1)-1)-1)-1)==0)=false;simp;omega) ?_
 by_cases h5:o.kind=5
 ·have hR:doM shaL s o=changeM shaL s o:=by
   unfold doM
   repeat (first | rw[if_neg (by omega)] | rw[if_pos (by omega)])
  rw[hR]
  refine ct (by show ((((((o.kind.toNat-1)-1)-1)-1)-1)==0)=true;rw[h5];rfl) ?_
  exact change_spec s o hs ho
 refine cf (by show ((((((o.kind.toNat-1)-1)-1)-1)-1)==0)=false;simp;omega) ?_
 by_cases h6:o.kind=6
 ·have hR:doM shaL s o=changeM shaL s o:=by
   unfold doM
   repeat (first | rw[if_neg (by omega)] | rw[if_pos (by omega)])
  rw[hR]
  refine ct (by show (((((((o.kind.toNat-1)-1)-1)-1)-1)-1)==0)=true;rw[h6];rfl) ?_
  exact change_spec s o hs ho
 refine cf (by show (((((((o.kind.toNat-1)-1)-1)-1)-1)-1)==0)=false;simp;omega) ?_
 by_cases h7:o.kind=7
 ·have hR:doM shaL s o=tickM s o:=by
   unfold doM
   repeat (first | rw[if_neg (by omega)] | rw[if_pos (by omega)])
  rw[hR]
  refine ct (by show ((((((((o.kind.toNat-1)-1)-1)-1)-1)-1)-1)==0)=true;rw[h7];rfl) ?_
  refine bdS (floor_spec s.floor o.time) ?_
  unfold tickM
  by_cases hf:floorN s.floor o.time=s.floor
  ·rw[if_pos hf]
   exact cf (by show neI (floorN s.floor o.time) s.floor=false;simpa using hf) rfl
  ·rw[if_neg hf]
   exact ct (by show neI (floorN s.floor o.time) s.floor=true;simpa using hf) rfl
 refine cf (by show ((((((((o.kind.toNat-1)-1)-1)-1)-1)-1)-1)==0)=false;simp;omega) ?_
 by_cases h8:o.kind=8
 ·have hR:doM shaL s o=sweepM s:=by
   unfold doM
   repeat (first | rw[if_neg (by omega)] | rw[if_pos (by omega)])
  rw[hR]
  refine ct (by show (((((((((o.kind.toNat-1)-1)-1)-1)-1)-1)-1)-1)==0)=true;rw[h8];rfl) ?_
  exact sweep_spec s o hs
 refine cf (by show (((((((((o.kind.toNat-1)-1)-1)-1)-1)-1)-1)-1)==0)=false;simp;omega) ?_
 by_cases h9:o.kind=9
 ·have hR:doM shaL s o=readM s o:=by
   unfold doM
   repeat (first | rw[if_neg (by omega)] | rw[if_pos (by omega)])
  rw[hR]
  refine ct (by show ((((((((((o.kind.toNat-1)-1)-1)-1)-1)-1)-1)-1)-1)==0)=true;rw[h9];rfl) ?_
  unfold readM
  refine bdS (find_specM s o.name (by omega)) ?_
  cases hx:findM s o.name with
  | none=>
   dsimp only
   rw[findI_none hx]
   exact ct (by simp) (stay_enc s 3)
  | some i=>
   obtain⟨hi,hnm⟩:=findM_is hx
   dsimp only
   rw[List.getElem?_eq_getElem hi,findI_some hx]
   dsimp only
   have hie:ix (s.enc.at 0).elems ((di (i:Int)).i).toNat=s.files[i].enc:=by
    show ix (s.files.map Fl.enc) (i:Int).toNat=_
    rw[Int.toNat_natCast,ix_map hi]
   refine cf (by simp) (ct (by show inb (i:Int) (s.files.map Fl.enc).length=true;simp;omega) ?_)
   rw[hie]
   exact bdS (read_spec s.files[i] o.a o.b) rfl
 refine cf (by show ((((((((((o.kind.toNat-1)-1)-1)-1)-1)-1)-1)-1)-1)==0)=false;simp;omega) ?_
 by_cases h10:o.kind=10
 ·have hR:doM shaL s o=statM s o:=by
   unfold doM
   repeat (first | rw[if_neg (by omega)] | rw[if_pos (by omega)])
  rw[hR]
  refine ct (by show (((((((((((o.kind.toNat-1)-1)-1)-1)-1)-1)-1)-1)-1)-1)==0)=true;rw[h10];rfl) ?_
  unfold statM
  refine bdS (find_specM s o.name (by omega)) ?_
  cases hx:findM s o.name with
  | none=>
   dsimp only
   rw[findI_none hx]
   exact ct (by simp) (stay_enc s 3)
  | some i=>
   obtain⟨hi,hnm⟩:=findM_is hx
   dsimp only
   rw[List.getElem?_eq_getElem hi,findI_some hx]
   dsimp only
   have hie:ix (s.enc.at 0).elems ((di (i:Int)).i).toNat=s.files[i].enc:=by
    show ix (s.files.map Fl.enc) (i:Int).toNat=_
    rw[Int.toNat_natCast,ix_map hi]
   refine cf (by simp) (ct (by show inb (i:Int) (s.files.map Fl.enc).length=true;simp;omega) ?_)
   rw[hie]
   exact bdS (meta_spec s.files[i]) rfl
 refine cf (by show (((((((((((o.kind.toNat-1)-1)-1)-1)-1)-1)-1)-1)-1)-1)==0)=false;simp;omega) ?_
 by_cases h11:o.kind=11
 ·have hR:doM shaL s o=listM s:=by
   unfold doM
   repeat (first | rw[if_neg (by omega)] | rw[if_pos (by omega)])
  rw[hR]
  refine ct (by show ((((((((((((o.kind.toNat-1)-1)-1)-1)-1)-1)-1)-1)-1)-1)-1)==0)=true;rw[h11];rfl) ?_
  exact list_spec s o hs
 refine cf (by show ((((((((((((o.kind.toNat-1)-1)-1)-1)-1)-1)-1)-1)-1)-1)-1)==0)=false;simp;omega) ?_
 omega
end Go.AM.SZ
namespace Go.AM.SZ
open Go Go.AM
def Run.enc (r:Run):D:=.tup [r.st.enc,dl r.nnA (r.ans.map An.enc),dl r.nnE (r.evs.map Ev.enc)]
theorem do_evs_len {sum:ByteArray→List Int} {s:St} {o:Mo} (hs:StOk s):(doM sum s o).evs.length≤12:=by
 unfold doM
 repeat' split
 ·simp[stay]
 ·simp[stay]
 ·unfold createM;repeat' split
  all_goals simp[stay]
 ·unfold tickM;split<;>simp
 ·have:=hs.len
  simp only[sweepM,dueL,List.length_map]
  exact Nat.le_trans (List.length_filter_le _ _) this
 ·unfold readM;repeat' split
  all_goals simp[stay]
 ·unfold statM;repeat' split
  all_goals simp[stay]
 ·simp[listM]
 ·unfold changeM;repeat' split
  all_goals simp[stay]
def oneM (o:Mo):Bool:=decide (o.text.size≤700)&&decide (o.name.size≤200)
def fewM (l:List Mo):Bool:=decide (l.length≤30)&&(l.take 31).all oneM
theorem few_specM (nn:Bool) (l:List Mo):F7.s FUEL (dl nn (l.map Mo.enc))=some (db (fewM l)):=by
 unfold F7.s
 refine goS_rule (fun t:F7.S2=>∃k:Nat,t=⟨dl nn (l.map Mo.enc),(k:Int)⟩∧k≤31∧∀i (h:i<l.length),i<k→oneM l[i]=true) (fun t=>31-t.i2.toNat) (fun o=>o=some (db (fewM l))) ?_ _ _ ⟨0,rfl,by omega,by omega⟩ (by simp[FUEL])
 rintro _ rec ⟨k,rfl,hk,hs⟩ hrec
 have hall:(∀i (h:i<l.length),i≤30→oneM l[i]=true)→(l.take 31).all oneM=true:=by
  intro h
  simp only[List.all_eq_true]
  intro e he
  obtain⟨i,hi,rfl⟩:=List.getElem_of_mem he
  simp at hi ⊢
  exact h i (by omega) (by omega)
 have hno:∀(h1:k<l.length),k≤30→oneM l[k]=false→fewM l=false:=by
  intro h1 h2 h3
  have:(l.take 31).all oneM=false:=by
   rw[List.all_eq_false]
   refine⟨l[k],?_,by simp[h3]⟩
   rw[List.mem_take_iff_getElem]
   exact⟨k,by omega,rfl⟩
  simp[fewM,this]
 simp only[F7.st2]
 by_cases h1:k<l.length
 ·refine ct (by simp;omega) ?_
  by_cases h2:k≤30
  ·refine ct (by simp;omega) (ct (by simp;omega) ?_)
   simp only[elems_slice,Int.toNat_natCast,ix_map h1]
   have ht:((l[k].enc.at 2).s)=l[k].text:=rfl
   have hn:((l[k].enc.at 1).s)=l[k].name:=rfl
   rw[ht,hn]
   by_cases h3:l[k].text.size≤700
   ·refine cf (by simp;omega) (ct (by simp;omega) ?_)
    by_cases h4:l[k].name.size≤200
    ·refine cf (by simp;omega) ?_
     have hadd:ad .i64 (k:Int) 1=((k+1:Nat):Int):=by rw[ad64 (by omega) (by omega)];rfl
     rw[hadd]
     refine hrec _ ⟨k+1,rfl,by omega,?_⟩ (by simp;omega)
     intro i hi hik
     by_cases hik':i=k
     ·subst hik';simp[oneM,h3,h4]
     ·exact hs i hi (by omega)
    ·refine ct (by simp;omega) ?_
     rw[hno h1 h2 (by simp[oneM,h4])]
   ·refine ct (by simp;omega) ?_
    rw[hno h1 h2 (by simp[oneM,h3])]
  ·refine cf (by simp;omega) ?_
   have:¬l.length≤30:=by omega
   simp[fewM,this,leI]
   try omega
 ·refine cf (by simp;omega) ?_
  have:=hall (fun i hi hi2=>hs i hi (by omega))
  simp[fewM,this,leI]
  omega
structure Mo.ok (o:Mo):Prop where
 kind:i64ok o.kind
 time:i64ok o.time
 a:i64ok o.a
 b:i64ok o.b
theorem mo_of {d:D} (h:D.has ty d (.struct [50,9,9,3,3,3])) (hw:D.wf d):∃o:Mo,d=o.enc∧o.ok:=by
 obtain⟨ds,rfl,hh⟩:=hass_struct h
 clear h
 have hf:List.map ty [50,9,9,3,3,3]=[.int .i64,.str,.str,.int .i64,.int .i64,.int .i64]:=rfl
 rw[hf] at hh
 obtain⟨d0,_,rfl,h0,hh⟩:=hassC hh
 obtain⟨d1,_,rfl,h1,hh⟩:=hassC hh
 obtain⟨d2,_,rfl,h2,hh⟩:=hassC hh
 obtain⟨d3,_,rfl,h3,hh⟩:=hassC hh
 obtain⟨d4,_,rfl,h4,hh⟩:=hassC hh
 obtain⟨d5,_,rfl,h5,hh⟩:=hassC hh
 obtain rfl:=hass0 hh
 obtain⟨x0,rfl⟩:=has_int h0
 obtain⟨x1,rfl⟩:=has_str h1
 obtain⟨x2,rfl⟩:=has_str h2
 obtain⟨x3,rfl⟩:=has_int h3
 obtain⟨x4,rfl⟩:=has_int h4
 obtain⟨x5,rfl⟩:=has_int h5
 rw[D.wf] at hw
 simp only[D.wfs] at hw
 exact⟨⟨x0,x1,x2,x3,x4,x5⟩,rfl,wf_i64 hw.1,wf_i64 hw.2.2.2.1,wf_i64 hw.2.2.2.2.1,wf_i64 hw.2.2.2.2.2.1⟩
theorem mos_of {d:D} (h:D.has ty d (.slice 52)) (hw:D.wf d):∃(nn:Bool) (l:List Mo),d=dl nn (l.map Mo.enc)∧∀o∈l,o.ok:=by
 obtain⟨nn,ds,rfl,h1,h2⟩:=hass_slice h
 simp only[D.wf] at hw
 obtain⟨l,rfl,_,hl⟩:=hass_rep (f:=Mo.enc) (Q:=fun o:Mo=>o.ok) (fun d h1 h2=>mo_of h1 h2) h1 (by first | exact hw | exact hw.1 | exact hw.2)
 exact⟨nn,l,rfl,hl⟩
theorem few_okM {l:List Mo} (h:fewM l=true) (hs:∀o∈l,o.ok):l.length≤30∧∀o∈l,MoOk o:=by
 unfold fewM at h
 simp only[Bool.and_eq_true,decide_eq_true_eq,List.all_eq_true] at h
 refine⟨h.1,fun o ho=>?_⟩
 have h2:=h.2 o (by rw[List.take_of_length_le (by omega)];exact ho)
 simp only[oneM,Bool.and_eq_true,decide_eq_true_eq] at h2
 exact⟨(hs o ho).kind,(hs o ho).time,(hs o ho).a,(hs o ho).b,by omega,by omega⟩
end Go.AM.SZ
namespace Go.AM.SZ
open Go Go.AM
def bN (t:ByteArray) (k:Nat):Nat:=(t.data.toList.getD k 0).toNat
theorem byteAt_bN (t:ByteArray) (k:Nat):byteAt t k=(bN t k:Int):=rfl
theorem bN_lt (t:ByteArray) (k:Nat):bN t k<256:=(t.data.toList.getD k 0).toNat_lt
theorem cv_byte (t:ByteArray) (k:Nat):cv .i64 (byteAt t k)=(bN t k:Int):=by
 have:=bN_lt t k
 have h:=ad64 (a:=(bN t k:Int)) (b:=0) (by omega) (by omega)
 rw[byteAt_bN]
 simpa[ad,cv] using h
theorem r22 {M N:Nat} {t:ByteArray} {n i:Nat} {low v:Int} (hi:i<n) (hn:n≤4) (hs:n≤t.size) (hv0:0≤v) (hv1:v≤100000000) (K:F137.X22→Option D) (NEG:Option D)
  (h0:∀a b c d e,K (.e0 a b c d e)=NEG) (h1:∀a b c d e,K (.e1 a b c d e)=NEG) :
  goS (F137.st22 M) (N+1) ⟨t,(n:Int),low,v,(i:Int)⟩ K=if 128≤bN t i∧bN t i≤191 then goS (F137.st22 M) N ⟨t,(n:Int),low,v*64+(bN t i:Int)-128,((i+1:Nat):Int)⟩ K else NEG:=by
 have hb:=bN_lt t i
 have hml:ml .i64 v 64=v*64:=ml64 (by omega) (by omega)
 have had:ad .i64 (v*64) (bN t i:Int)=v*64+(bN t i:Int):=ad64 (by omega) (by omega)
 have hsb:sb .i64 (v*64+(bN t i:Int)) 128=v*64+(bN t i:Int)-128:=sb64 (by omega) (by omega)
 have hadd:ad .i64 (i:Int) 1=((i+1:Nat):Int):=by rw[ad64 (by omega) (by omega)];rfl
 show F137.st22 M ⟨t,(n:Int),low,v,(i:Int)⟩ (fun s=>goS (F137.st22 M) N s K) K=_
 simp only[F137.st22,Int.toNat_natCast,cv_byte,hml,had,hsb,hadd]
 by_cases hc:128≤bN t i∧bN t i≤191
 ·rw[if_pos hc]
  exact ct (by simp;omega) (ct (by simp;omega) (cf (by simp;omega) (cf (by simp;omega) rfl)))
 ·rw[if_neg hc]
  refine ct (by simp;omega) (ct (by simp;omega) ?_)
  by_cases h:bN t i<128
  ·exact ct (by simp;omega) (h0 _ _ _ _ _)
  ·exact cf (by simp;omega) (ct (by simp;omega) (h1 _ _ _ _ _))
theorem e22 {M N:Nat} {t:ByteArray} {n:Nat} {low v:Int} (K:F137.X22→Option D):goS (F137.st22 M) (N+1) ⟨t,(n:Int),low,v,(n:Int)⟩ K=K (.e2 t (n:Int) low v (n:Int)):=by
 show F137.st22 M ⟨t,(n:Int),low,v,(n:Int)⟩ (fun s=>goS (F137.st22 M) N s K) K=_
 simp only[F137.st22]
 exact cf (by simp) rfl
def refR (p:Nat×Nat):Int×Int:=if p.1=65533∧p.2<2 then (-1,1) else ((p.1:Int),(p.2:Int))
def tupR (x:Int×Int):Option D:=some (D.tup [di x.1,di x.2])
theorem decode_bN (t:ByteArray):Utf8.decode t 0=Lib.decodeN t.size (bN t 0) (bN t 1) (bN t 2) (bN t 3):=by
 rw[Lib.decode_N]
 rfl
theorem neg_R:tupR (refR (65533,1))=some (D.tup [di (-1),di 1]):=rfl
theorem rune_spec (t:ByteArray) (ht:0<t.size):F137.s FUEL t=tupR (refR (Utf8.decode t 0)):=by
 rw[decode_bN]
 have k0:=bN_lt t 0
 have k1:=bN_lt t 1
 have k2:=bN_lt t 2
 have k3:=bN_lt t 3
 generalize hb1:bN t 1=b1 at k1
 generalize hb2:bN t 2=b2 at k2
 generalize hb3:bN t 3=b3 at k3
 unfold F137.s
 simp only[cv_byte]
 generalize hb0:bN t 0=b0 at k0
 refine ct (by simp only[inb_t];omega) ?_
 have hF:FUEL=1048572+1+1+1+1:=rfl
 by_cases c0:b0<128
 ·refine ct (by simp only[ltI_t];omega) ?_
  have:Lib.decodeN t.size b0 b1 b2 b3=(b0,1):=by unfold Lib.decodeN;rw[if_pos c0]
  rw[this]
  unfold refR tupR
  rw[if_neg (by dsimp only;omega)]
  rfl
 refine cf (by simp only[ltI_f];omega) ?_
 by_cases c1:b0<194
 ·have:Lib.decodeN t.size b0 b1 b2 b3=(65533,1):=by
   unfold Lib.decodeN
   rw[if_neg c0]
   split
   ·rw[if_neg (by omega)]
   ·rw[if_neg (by omega),if_neg (by omega)]
  rw[this,neg_R]
  refine cf (by simp only[geI_f];omega) (cf (by simp only[geI_f];omega) (cf (by simp only[geI_f];omega) rfl))
 by_cases c2:b0<224
 ·refine ct (by simp only[geI_t];omega) (ct (by simp only[ltI_t];omega) ?_)
  by_cases hsz:t.size<2
  ·have:Lib.decodeN t.size b0 b1 b2 b3=(65533,1):=by
    unfold Lib.decodeN
    rw[if_neg c0,if_neg (by omega),if_neg (by omega),if_neg (by omega)]
   rw[this,neg_R]
   exact ct (by simp only[ltI_t,nI_eq];omega) rfl
  refine cf (by simp only[ltI_f,nI_eq];omega) ?_
  have hsb:sb .i64 (b0:Int) 192=(b0:Int)-192:=sb64 (by omega) (by omega)
  rw[hsb]
  have step:=r22 (M:=FUEL) (N:=1048572+1+1+1) (t:=t) (n:=2) (i:=1) (low:=128) (v:=(b0:Int)-192) (by omega) (by omega) (by omega) (by omega) (by omega)
   (fun x=>match x with | .e0 s1 i2 i3 i4 i5=>(some (D.tup [(di (-1)),(di 1)])) | .e1 s1 i2 i3 i4 i5=>(some (D.tup [(di (-1)),(di 1)])) | .e2 s1 i2 i3 i4 i5=>(cond (ltI i4 i3) (some (D.tup [(di (-1)),(di 1)])) (cond (gtI i4 1114111) (some (D.tup [(di (-1)),(di 1)])) (cond (geI i4 55296) (cond (leI i4 57343) (some (D.tup [(di (-1)),(di 1)])) (some (D.tup [(di i4),(di i2)]))) (some (D.tup [(di i4),(di i2)])))))) (some (D.tup [(di (-1)),(di 1)])) (fun _ _ _ _ _=>rfl) (fun _ _ _ _ _=>rfl)
  refine Eq.trans step ?_
  rw[hb1]
  by_cases hc:128≤b1∧b1≤191
  ·rw[if_pos hc,e22]
   have:Lib.decodeN t.size b0 b1 b2 b3=(b0%32*64+b1%64,2):=by
    unfold Lib.decodeN
    rw[if_neg c0,if_pos (by omega),if_pos (by omega)]
   rw[this]
   have hv:((b0:Int)-192)*64+(b1:Int)-128=((b0%32*64+b1%64:Nat):Int):=by omega
   rw[hv]
   refine cf (by simp only[ltI_f];omega) (cf (by simp only[gtI_f];omega) (cf (by simp only[geI_f];omega) ?_))
   unfold refR tupR
   rw[if_neg (by dsimp only;omega)]
  ·rw[if_neg hc]
   have:Lib.decodeN t.size b0 b1 b2 b3=(65533,1):=by
    unfold Lib.decodeN
    rw[if_neg c0,if_neg (by omega),if_neg (by omega),if_neg (by omega)]
   rw[this,neg_R]
 refine ct (by simp only[geI_t];omega) (cf (by simp only[ltI_f];omega) ?_)
 by_cases c3:b0<240
 ·refine ct (by simp only[geI_t];omega) (ct (by simp only[ltI_t];omega) ?_)
  by_cases hsz:t.size<3
  ·have:Lib.decodeN t.size b0 b1 b2 b3=(65533,1):=by
    unfold Lib.decodeN
    rw[if_neg c0,if_neg (by omega),if_neg (by omega),if_neg (by omega)]
   rw[this,neg_R]
   exact ct (by simp only[ltI_t,nI_eq];omega) rfl
  refine cf (by simp only[ltI_f,nI_eq];omega) ?_
  have hsb:sb .i64 (b0:Int) 224=(b0:Int)-224:=sb64 (by omega) (by omega)
  rw[hsb]
  have step:=r22 (M:=FUEL) (N:=1048572+1+1+1) (t:=t) (n:=3) (i:=1) (low:=2048) (v:=(b0:Int)-224) (by omega) (by omega) (by omega) (by omega) (by omega)
   (fun x=>match x with | .e0 s1 i2 i3 i4 i5=>(some (D.tup [(di (-1)),(di 1)])) | .e1 s1 i2 i3 i4 i5=>(some (D.tup [(di (-1)),(di 1)])) | .e2 s1 i2 i3 i4 i5=>(cond (ltI i4 i3) (some (D.tup [(di (-1)),(di 1)])) (cond (gtI i4 1114111) (some (D.tup [(di (-1)),(di 1)])) (cond (geI i4 55296) (cond (leI i4 57343) (some (D.tup [(di (-1)),(di 1)])) (some (D.tup [(di i4),(di i2)]))) (some (D.tup [(di i4),(di i2)])))))) (some (D.tup [(di (-1)),(di 1)])) (fun _ _ _ _ _=>rfl) (fun _ _ _ _ _=>rfl)
  refine Eq.trans step ?_
  rw[hb1]
  by_cases hc:128≤b1∧b1≤191
  ·rw[if_pos hc,r22 (by omega) (by omega) (by omega) (by omega) (by omega) _ (some (D.tup [(di (-1)),(di 1)])) (fun _ _ _ _ _=>rfl) (fun _ _ _ _ _=>rfl),hb2]
   by_cases hc2:128≤b2∧b2≤191
   ·rw[if_pos hc2,e22]
    have hv:(((b0:Int)-224)*64+(b1:Int)-128)*64+(b2:Int)-128=((b0%16*4096+b1%64*64+b2%64:Nat):Int):=by omega
    rw[hv]
    generalize hcc:b0%16*4096+b1%64*64+b2%64=c
    by_cases hok:c≥2048∧(c<55296∨(57344≤c∧c≤1114111))
    ·have:Lib.decodeN t.size b0 b1 b2 b3=(c,3):=by
      unfold Lib.decodeN
      rw[if_neg c0,if_neg (by omega),if_pos (by omega),hcc,if_pos hok]
     rw[this]
     refine cf (by simp only[ltI_f];omega) (cf (by simp only[gtI_f];omega) ?_)
     have hfin:some (D.tup [di (c:Int),di ((3:Nat):Int)])=tupR (refR (c,3)):=by
      unfold refR tupR
      rw[if_neg (by dsimp only;omega)]
     by_cases h55:55296≤c
     ·exact ct (by simp only[geI_t];omega) (cf (by simp only[leI_f];omega) hfin)
     ·exact cf (by simp only[geI_f];omega) hfin
    ·have:Lib.decodeN t.size b0 b1 b2 b3=(65533,1):=by
      unfold Lib.decodeN
      rw[if_neg c0,if_neg (by omega),if_pos (by omega),hcc,if_neg hok]
     rw[this,neg_R]
     by_cases hlow:c<2048
     ·exact ct (by simp only[ltI_t];omega) rfl
     ·refine cf (by simp only[ltI_f];omega) (cf (by simp only[gtI_f];omega) (ct (by simp only[geI_t];omega) (ct (by simp only[leI_t];omega) rfl)))
   ·rw[if_neg hc2]
    have:Lib.decodeN t.size b0 b1 b2 b3=(65533,1):=by
     unfold Lib.decodeN
     rw[if_neg c0,if_neg (by omega),if_neg (by omega),if_neg (by omega)]
    rw[this,neg_R]
  ·rw[if_neg hc]
   have:Lib.decodeN t.size b0 b1 b2 b3=(65533,1):=by
    unfold Lib.decodeN
    rw[if_neg c0,if_neg (by omega),if_neg (by omega),if_neg (by omega)]
   rw[this,neg_R]
 refine ct (by simp only[geI_t];omega) (cf (by simp only[ltI_f];omega) (ct (by simp only[geI_t];omega) ?_))
 by_cases c4:b0<245
 ·refine ct (by simp only[ltI_t];omega) ?_
  by_cases hsz:t.size<4
  ·have:Lib.decodeN t.size b0 b1 b2 b3=(65533,1):=by
    unfold Lib.decodeN
    rw[if_neg c0,if_neg (by omega),if_neg (by omega),if_neg (by omega)]
   rw[this,neg_R]
   exact ct (by simp only[ltI_t,nI_eq];omega) rfl
  refine cf (by simp only[ltI_f,nI_eq];omega) ?_
  have hsb:sb .i64 (b0:Int) 240=(b0:Int)-240:=sb64 (by omega) (by omega)
  rw[hsb]
  have step:=r22 (M:=FUEL) (N:=1048572+1+1+1) (t:=t) (n:=4) (i:=1) (low:=65536) (v:=(b0:Int)-240) (by omega) (by omega) (by omega) (by omega) (by omega)
   (fun x=>match x with | .e0 s1 i2 i3 i4 i5=>(some (D.tup [(di (-1)),(di 1)])) | .e1 s1 i2 i3 i4 i5=>(some (D.tup [(di (-1)),(di 1)])) | .e2 s1 i2 i3 i4 i5=>(cond (ltI i4 i3) (some (D.tup [(di (-1)),(di 1)])) (cond (gtI i4 1114111) (some (D.tup [(di (-1)),(di 1)])) (cond (geI i4 55296) (cond (leI i4 57343) (some (D.tup [(di (-1)),(di 1)])) (some (D.tup [(di i4),(di i2)]))) (some (D.tup [(di i4),(di i2)])))))) (some (D.tup [(di (-1)),(di 1)])) (fun _ _ _ _ _=>rfl) (fun _ _ _ _ _=>rfl)
  refine Eq.trans step ?_
  rw[hb1]
  by_cases hc:128≤b1∧b1≤191
  ·rw[if_pos hc,r22 (by omega) (by omega) (by omega) (by omega) (by omega) _ (some (D.tup [(di (-1)),(di 1)])) (fun _ _ _ _ _=>rfl) (fun _ _ _ _ _=>rfl),hb2]
   by_cases hc2:128≤b2∧b2≤191
   ·rw[if_pos hc2,r22 (by omega) (by omega) (by omega) (by omega) (by omega) _ (some (D.tup [(di (-1)),(di 1)])) (fun _ _ _ _ _=>rfl) (fun _ _ _ _ _=>rfl),hb3]
    by_cases hc3:128≤b3∧b3≤191
    ·rw[if_pos hc3,e22]
     have hv:((((b0:Int)-240)*64+(b1:Int)-128)*64+(b2:Int)-128)*64+(b3:Int)-128=((b0%8*262144+b1%64*4096+b2%64*64+b3%64:Nat):Int):=by omega
     rw[hv]
     generalize hcc:b0%8*262144+b1%64*4096+b2%64*64+b3%64=c
     by_cases hok:c≥65536∧(c<55296∨(57344≤c∧c≤1114111))
     ·have:Lib.decodeN t.size b0 b1 b2 b3=(c,4):=by
       unfold Lib.decodeN
       rw[if_neg c0,if_neg (by omega),if_neg (by omega),if_pos (by omega),hcc,if_pos hok]
      rw[this]
      refine cf (by simp only[ltI_f];omega) (cf (by simp only[gtI_f];omega) (ct (by simp only[geI_t];omega) (cf (by simp only[leI_f];omega) ?_)))
      unfold refR tupR
      rw[if_neg (by dsimp only;omega)]
     ·have:Lib.decodeN t.size b0 b1 b2 b3=(65533,1):=by
       unfold Lib.decodeN
       rw[if_neg c0,if_neg (by omega),if_neg (by omega),if_pos (by omega),hcc,if_neg hok]
      rw[this,neg_R]
      by_cases hlow:c<65536
      ·exact ct (by simp only[ltI_t];omega) rfl
      ·exact cf (by simp only[ltI_f];omega) (ct (by simp only[gtI_t];omega) rfl)
    ·rw[if_neg hc3]
     have:Lib.decodeN t.size b0 b1 b2 b3=(65533,1):=by
      unfold Lib.decodeN
      rw[if_neg c0,if_neg (by omega),if_neg (by omega),if_neg (by omega)]
     rw[this,neg_R]
   ·rw[if_neg hc2]
    have:Lib.decodeN t.size b0 b1 b2 b3=(65533,1):=by
     unfold Lib.decodeN
     rw[if_neg c0,if_neg (by omega),if_neg (by omega),if_neg (by omega)]
    rw[this,neg_R]
  ·rw[if_neg hc]
   have:Lib.decodeN t.size b0 b1 b2 b3=(65533,1):=by
    unfold Lib.decodeN
    rw[if_neg c0,if_neg (by omega),if_neg (by omega),if_neg (by omega)]
   rw[this,neg_R]
 ·refine cf (by simp only[ltI_f];omega) ?_
  have:Lib.decodeN t.size b0 b1 b2 b3=(65533,1):=by
   unfold Lib.decodeN
   rw[if_neg c0,if_neg (by omega),if_neg (by omega)]
   split
   ·rw[if_neg (by omega)]
   ·rfl
  rw[this,neg_R]
theorem runes_ref (s:ByteArray) (hs:s.size≤1048576):F103.s FUEL s=some (dl (!(keys s).isEmpty) ((keys s).map di)):=by
 unfold F103.s
 have hlen:=keys_len s
 have key:∀p,p<s.size→(runesFrom s p).map (keyR s)=keyR s (p,(Utf8.decode s p).1)::(runesFrom s (p+(Utf8.decode s p).2)).map (keyR s):=fun p hp=>by rw[runesFrom_step hp];rfl
 refine goS_rule (fun t:F103.S3=>∃(p:Nat) (l:List Int),t=⟨s,0,l.length,(p:Int),!l.isEmpty,l.map di⟩∧p≤s.size+4∧keys s=l++(runesFrom s p).map (keyR s)) (fun t=>s.size-t.i4.toNat) (fun o=>o=some (dl (!(keys s).isEmpty) ((keys s).map di))) ?_ _ _ ⟨0,[],rfl,by omega,by simp[keys,runes,runesFrom]⟩ (by simp[FUEL];omega)
 rintro _ rec ⟨p,l,rfl,hp4,hk⟩ hrec
 have hll:l.length≤s.size:=by
  have:=congrArg List.length hk
  simp at this;omega
 simp only[F103.st3]
 by_cases h:p<s.size
 ·refine ct (by simp only[ltI_t,nI_eq];omega) (ct (by simp;omega) ?_)
  have hsz:(s.extract (Int.toNat (p:Int)) s.size).size=s.size-p:=by simp
  refine bdS (rune_spec _ (by rw[hsz];omega)) ?_
  have hde:Utf8.decode (s.extract (Int.toNat (p:Int)) s.size) 0=Utf8.decode s p:=by rw[Int.toNat_natCast,Lib.tail_decode,Nat.add_zero]
  rw[hde]
  rw[key p h] at hk
  have hpos:=decode_pos s p
  have hw:(Utf8.decode s p).2≤4:=by
   rw[Lib.decode_N]
   generalize (s.data.toList.length-p)=n
   rcases Lib.decodeN_shape n (s.data.toList.getD p 0).toNat (s.data.toList.getD (p+1) 0).toNat (s.data.toList.getD (p+2) 0).toNat (s.data.toList.getD (p+3) 0).toNat with ⟨_,e⟩ | ⟨_,_,_,_,e⟩ | ⟨_,_,_,_,_,_,e⟩ | ⟨_,_,_,_,_,_,_,e⟩ | e
   all_goals rw[e];simp
  have htop:=dec_top s p
  have fin:∀(x:Int) (w:Int),x=keyR s (p,(Utf8.decode s p).1)→w=((Utf8.decode s p).2:Int)→rec ⟨s,0,l.length+1,ad .i64 (p:Int) w,!l.isEmpty||true,ap (((l.map di).drop 0).take l.length) [di x]⟩=some (dl (!(keys s).isEmpty) ((keys s).map di)):=by
   rintro x w rfl rfl
   have hadd:ad .i64 (p:Int) ((Utf8.decode s p).2:Int)=((p+(Utf8.decode s p).2:Nat):Int):=by rw[ad64 (by omega) (by omega)];rfl
   rw[hadd]
   refine hrec _ ⟨p+(Utf8.decode s p).2,l++[keyR s (p,(Utf8.decode s p).1)],?_,by omega,by rw[hk];simp⟩ ?_
   ·rw[F103.S3.mk.injEq]
    refine⟨rfl,rfl,by simp,rfl,by cases l<;>rfl,?_⟩
    rw[List.drop_zero,List.take_of_length_le (by simp),ap,List.map_append]
    rfl
   ·dsimp only;omega
  unfold refR
  by_cases hb:(Utf8.decode s p).1=65533∧(Utf8.decode s p).2<2
  ·rw[if_pos hb]
   have hr:=byteAt_range s p
   refine ct (by show ltI (-1) 0=true;simp) (ct (by simp only[inb_t];omega) (ct (by simp;omega) ?_))
   have e1:ad .i64 1114112 (cv .i64 (byteAt s (Int.toNat (p:Int))))=keyR s (p,(Utf8.decode s p).1):=by
    rw[Int.toNat_natCast,cv_byte,←byteAt_bN,ad64 (by omega) (by omega),keyR,if_pos hb]
   exact fin _ _ e1 (by show (1:Int)=_;omega)
  ·rw[if_neg hb]
   refine cf (by show ltI ((Utf8.decode s p).1:Int) 0=false;simp) (ct (by simp;omega) ?_)
   exact fin _ _ (by rw[keyR,if_neg hb]) rfl
 ·refine cf (by simp only[ltI_f,nI_eq];omega) ?_
  rw[runesFrom_end (by omega)] at hk
  simp only[List.map_nil,List.append_nil] at hk
  rw[hk]
  exact ct (by simp) rfl
theorem less_ref (a b:ByteArray) (ha:a.size≤1048576) (hb:b.size≤1048576):F104.s FUEL a b=some (db (lessB a b)):=by
 unfold F104.s
 refine bdS (runes_ref a ha) (bdS (runes_ref b hb) ?_)
 have hla:=keys_len a
 have hlb:=keys_len b
 simp only[elems_slice,nn_slice,List.length_map]
 generalize hx:keys a=xs at hla
 generalize hy:keys b=ys at hlb
 refine goS_rule (fun t:F104.S4=>∃i:Nat,t=⟨0,xs.length,0,ys.length,(i:Int),!xs.isEmpty,xs.map di,!ys.isEmpty,ys.map di⟩∧i≤xs.length∧i≤ys.length∧∀j (h1:j<xs.length) (h2:j<ys.length),j<i→xs[j]=ys[j]) (fun t=>xs.length-t.i7.toNat) (fun o=>o=some (db (lessB a b))) ?_ _ _ ⟨0,by simp,by omega,by omega,by omega⟩ (by simp[FUEL];omega)
 rintro _ rec ⟨i,rfl,hi,hi',hs⟩ hrec
 have hlex:=lexB_drop hs hi hi'
 simp only[F104.st4]
 unfold lessB at hrec ⊢
 rw[hx,hy] at hrec ⊢
 have hend:(xs.drop i=[]∨ys.drop i=[])→(i=xs.length∨i=ys.length)→some (db (ltI (nI xs.length) (nI ys.length)))=some (db (lexB xs ys)):=by
  intro _ he
  rw[hlex]
  congr 2
  rw[Bool.eq_iff_iff,ltI_t,nI_eq,nI_eq]
  rcases he with rfl | rfl
  ·rw[List.drop_length]
   simp only[lexB]
   rw[Bool.not_eq_true',List.isEmpty_eq_false_iff,←List.length_pos_iff,List.length_drop]
   omega
  ·rw[List.drop_length (l:=ys)]
   by_cases hix:ys.length<xs.length
   ·rw[List.drop_eq_getElem_cons hix]
    simp only[lexB]
    constructor
    ·intro h;omega
    ·intro h;simp at h
   ·rw[List.drop_of_length_le (l:=xs) (by omega)]
    simp only[lexB]
    constructor
    ·intro h;omega
    ·intro h;simp at h
 by_cases h1:i<xs.length
 ·by_cases h2:i<ys.length
  ·rw[List.drop_eq_getElem_cons h1,List.drop_eq_getElem_cons h2] at hlex
   simp only[lexB] at hlex
   refine ct (by simp;omega) (ct (by simp;omega) (ct (by simp;omega) (ct (by simp;omega) ?_)))
   simp only[Int.toNat_natCast,Nat.zero_add,ix_map h1,ix_map h2,i_int]
   by_cases h3:xs[i]=ys[i]
   ·refine cf (by simpa using h3) ?_
    have hadd:ad .i64 (i:Int) 1=((i+1:Nat):Int):=by rw[ad64 (by omega) (by omega)];rfl
    rw[hadd]
    refine hrec _ ⟨i+1,rfl,by omega,by omega,?_⟩ (by simp;omega)
    intro j hj1 hj2 hj
    by_cases hji:j=i
    ·subst hji;exact h3
    ·exact hs j hj1 hj2 (by omega)
   ·refine ct (by simpa using h3) (ct (by simp;omega) (ct (by simp;omega) ?_))
    rw[if_neg h3] at hlex
    rw[hlex]
    rfl
  ·refine ct (by simp;omega) (cf (by simp;omega) ?_)
   exact hend (.inr (List.drop_of_length_le (by omega))) (.inr (by omega))
 ·refine cf (by simp;omega) ?_
  exact hend (.inl (List.drop_of_length_le (by omega))) (.inl (by omega))
end Go.AM.SZ
namespace Go.AM.SZ
open Go Go.AM
theorem ends_rune {s:ByteArray} {p:Nat} (h:p<s.size) :
  (byteAt s p=32↔(Utf8.decode s p).1=32)∧(byteAt s (p+(Utf8.decode s p).2-1)=32↔(Utf8.decode s p).1=32)∧p+(Utf8.decode s p).2≤s.size:=by
 have hl:(s.data.toList.drop p).length=s.size-p:=by simp
 have hb:∀k,byteAt s (p+k)=(((s.data.toList.drop p).getD k 0).toNat:Int):=by
  intro k
  unfold byteAt
  simp[List.getD_eq_getElem?_getD]
 have b0:=hb 0
 have b1:=hb 1
 have b2:=hb 2
 have b3:=hb 3
 rw[Nat.add_zero] at b0
 have e:=Lib.decodeL_N (s.data.toList.drop p)
 rw[dec_L,hl] at e
 rw[e]
 generalize ((s.data.toList.drop p).getD 0 0).toNat=c0 at *
 generalize ((s.data.toList.drop p).getD 1 0).toNat=c1 at *
 generalize ((s.data.toList.drop p).getD 2 0).toNat=c2 at *
 generalize ((s.data.toList.drop p).getD 3 0).toNat=c3 at *
 by_cases k0:c0<128
 ·have:Lib.decodeN (s.size-p) c0 c1 c2 c3=(c0,1):=by unfold Lib.decodeN;rw[if_pos k0]
  rw[this]
  dsimp only
  rw[show p+1-1=p by omega,b0]
  omega
 ·rcases Lib.decodeN_shape (s.size-p) c0 c1 c2 c3 with ⟨c,e⟩ | ⟨d1,d2,d3,cv,e⟩ | ⟨d1,d2,d3,d4,cv,cs,e⟩ | ⟨d1,d2,d3,d4,d5,cv,cw,e⟩ | e
  ·omega
  ·rw[e];dsimp only;rw[show p+2-1=p+1 by omega,b1,b0];omega
  ·rw[e];dsimp only;rw[show p+3-1=p+2 by omega,b2,b0];omega
  ·rw[e];dsimp only;rw[show p+4-1=p+3 by omega,b3,b0];omega
  ·rw[e];dsimp only;rw[show p+1-1=p by omega,b0];omega
theorem key32 {s:ByteArray} {r:Nat×Nat}:keyR s r=32↔r.2=32:=by
 unfold keyR
 split
 ·rename_i h
  have:=byteAt_range s r.1
  omega
 ·omega
theorem last_rune {s:ByteArray}:∀(n p:Nat),s.size-p≤n→p<s.size→∃q,q<s.size∧(runesFrom s p).getLast? = some (q,(Utf8.decode s q).1)∧q+(Utf8.decode s q).2=s.size
 | 0,p,hn,hp=>by omega
 | n+1,p,hn,hp=>by
  have h1:=decode_pos s p
  have h2:=(ends_rune hp).2.2
  rw[runesFrom_step hp]
  by_cases h:p+(Utf8.decode s p).2<s.size
  ·obtain⟨q,a1,a2,a3⟩:=last_rune n _ (by omega) h
   exact⟨q,a1,by rw[List.getLast?_cons,a2];rfl,a3⟩
  ·rw[runesFrom_end (by omega)]
   exact⟨p,hp,rfl,by omega⟩
theorem odd_key {s:ByteArray} {r:Nat×Nat} (hr:r.2≤1114111):(oddR (r.2:Int)=false)↔¬(keyR s r<32)∧keyR s r≠47∧¬(127≤keyR s r∧keyR s r≤159)∧keyR s r≠65533∧keyR s r<1114112:=by
 have hb:=byteAt_range s r.1
 have e:oddR (r.2:Int)=false↔¬((r.2:Int)<32)∧(r.2:Int)≠47∧¬(127≤(r.2:Int)∧(r.2:Int)≤159)∧(r.2:Int)≠65533:=by
  simp[oddR]
  omega
 rw[e]
 unfold keyR
 split<;>omega
theorem rune_top {s:ByteArray}:∀(n p:Nat),s.size-p≤n→∀r∈runesFrom s p,r.2≤1114111
 | 0,p,hn,r,hr=>by rw[runesFrom_end (by omega)] at hr;simp at hr
 | n+1,p,hn,r,hr=>by
  by_cases h:p<s.size
  ·have h1:=decode_pos s p
   rw[runesFrom_step h] at hr
   rcases List.mem_cons.1 hr with rfl | hr
   ·exact dec_top s p
   ·exact rune_top n _ (by omega) r hr
  ·rw[runesFrom_end (by omega)] at hr;simp at hr
theorem valid_ref (s:ByteArray) (hs:s.size≤1048576):F51.s FUEL s=some (db (nameB s)):=by
 unfold F51.s
 have hlen:=runes_len s
 have hR:runes s=runesFrom s 0:=rfl
 have hK:(keys s).length=(runes s).length:=by simp[keys]
 refine bdS (runes_ref s hs) ?_
 simp only[elems_slice,nn_slice,List.length_map]
 rw[hK]
 unfold nameB
 by_cases h1:0<(runes s).length
 ·have hsz:0<s.size:=by omega
  rw[decide_eq_true h1,Bool.true_and]
  refine cf (by simp;omega) ?_
  by_cases h2:(runes s).length≤24
  ·rw[decide_eq_true h2,Bool.true_and]
   refine cf (by simp;omega) (ct (by simp;omega) ?_)
   have hk0:0<(keys s).length:=by omega
   have hkl:(keys s).length-1<(keys s).length:=by omega
   have hsb:sb .i64 (nI (runes s).length) 1=(((keys s).length-1:Nat):Int):=by rw[nI_eq,sb64 (by omega) (by omega)];omega
   rw[hsb,ix_map hk0,Int.toNat_natCast,Nat.zero_add,ix_map hkl]
   have first:(keys s)[0]=32↔byteAt s 0=32:=by
    have e:(keys s)[0]=keyR s (0,(Utf8.decode s 0).1):=by
     have:keys s=keyR s (0,(Utf8.decode s 0).1)::(runesFrom s (0+(Utf8.decode s 0).2)).map (keyR s):=by unfold keys;rw[hR,runesFrom_step hsz];rfl
     simp only[this,List.getElem_cons_zero]
    rw[e,key32,(ends_rune hsz).1]
   have last:(keys s)[(keys s).length-1]=32↔byteAt s (s.size-1)=32:=by
    obtain⟨q,a1,a2,a3⟩:=last_rune s.size 0 (by omega) hsz
    have e:(keys s)[(keys s).length-1]=keyR s (q,(Utf8.decode s q).1):=by
     have h3:(keys s).getLast? = some (keyR s (q,(Utf8.decode s q).1)):=by unfold keys;rw[hR,List.getLast?_map,a2];rfl
     rw[List.getLast?_eq_getElem?,List.getElem?_eq_getElem hkl] at h3
     exact Option.some.inj h3
    have:=(ends_rune a1).2.1
    rw[show q+(Utf8.decode s q).2-1=s.size-1 by omega] at this
    rw[e,key32,this]
   by_cases h3:byteAt s 0=32
   ·have hb:nameB s=false:=by unfold nameB;simp[h3]
    unfold nameB at hb
    rw[decide_eq_true h1,Bool.true_and,decide_eq_true h2,Bool.true_and] at hb
    rw[hb]
    exact ct (by simp[first.2 h3]) rfl
   refine cf (by rw[i_int,eqI_f];exact fun h=>h3 (first.1 h)) (ct (by simp;omega) ?_)
   by_cases h4:byteAt s (s.size-1)=32
   ·have hb:nameB s=false:=by unfold nameB;simp[h4]
    unfold nameB at hb
    rw[decide_eq_true h1,Bool.true_and,decide_eq_true h2,Bool.true_and] at hb
    rw[hb]
    exact ct (by simp[last.2 h4]) rfl
   refine cf (by rw[i_int,eqI_f];exact fun h=>h4 (last.1 h)) ?_
   rw[decide_eq_true h3,decide_eq_true h4,Bool.true_and,Bool.and_true]
   refine goS_rule (fun t:F51.S5=>∃k:Nat,t=⟨0,(runes s).length,(k:Int),!(keys s).isEmpty,(keys s).map di⟩∧k≤(runes s).length∧∀i (hi:i<(runes s).length),i<k→oddR ((runes s)[i].2:Int)=false) (fun t=>(runes s).length-t.i4.toNat) (fun o=>o=some (db ((runes s).all fun r=>!oddR r.2))) ?_ _ _ ⟨0,rfl,by omega,by omega⟩ (by simp[FUEL];omega)
   rintro _ rec ⟨k,rfl,hk,hs5⟩ hrec
   simp only[F51.st5]
   by_cases h5:k<(runes s).length
   ·have hkk:k<(keys s).length:=by omega
    have hadd:ad .i64 (k:Int) 1=((k+1:Nat):Int):=by rw[ad64 (by omega) (by omega)];rfl
    refine ct (by simp;omega) (ct (by simp;omega) ?_)
    rw[Int.toNat_natCast,Nat.zero_add,ix_map hkk,i_int,hadd]
    have hkey:(keys s)[k]=keyR s (runes s)[k]:=by simp[keys]
    rw[hkey]
    have htop:=rune_top s.size 0 (by omega) _ (show (runes s)[k]∈runesFrom s 0 from List.getElem_mem h5)
    have hodd:=odd_key (s:=s) htop
    generalize keyR s (runes s)[k]=key at hodd
    have no:oddR ((runes s)[k].2:Int)=true→(some (db false):Option D)=some (db ((runes s).all fun r=>!oddR r.2)):=by
     intro h
     have:((runes s).all fun r=>!oddR r.2)=false:=by
      rw[List.all_eq_false]
      exact⟨_,List.getElem_mem h5,by simp[h]⟩
     rw[this]
    have nof:¬(¬(key<32)∧key≠47∧¬(127≤key∧key≤159)∧key≠65533∧key<1114112)→oddR ((runes s)[k].2:Int)=true:=by
     intro h
     cases ho:oddR ((runes s)[k].2:Int) with
     | true=>rfl
     | false=>exact absurd (hodd.1 ho) h
    have yes:(¬(key<32)∧key≠47∧¬(127≤key∧key≤159)∧key≠65533∧key<1114112)→rec ⟨0,(runes s).length,((k+1:Nat):Int),!(keys s).isEmpty,(keys s).map di⟩=some (db ((runes s).all fun r=>!oddR r.2)):=by
     intro h
     refine hrec _ ⟨k+1,rfl,by omega,fun i hi hik=>?_⟩ (by simp;omega)
     by_cases hkk:i=k
     ·subst hkk;exact hodd.2 h
     ·exact hs5 i hi (by omega)
    by_cases g1:key<32
    ·exact ct (by simpa using g1) (no (nof (by omega)))
    refine cf (by simp;omega) ?_
    by_cases g2:key=47
    ·exact ct (by simpa using g2) (no (nof (by omega)))
    refine cf (by simpa using g2) ?_
    by_cases g3:127≤key
    ·refine ct (by simpa using g3) ?_
     by_cases g4:key≤159
     ·exact ct (by simpa using g4) (no (nof (by omega)))
     refine cf (by simp;omega) ?_
     by_cases g5:key=65533
     ·exact ct (by simpa using g5) (no (nof (by omega)))
     refine cf (by simpa using g5) ?_
     by_cases g6:1114112≤key
     ·exact ct (by simpa using g6) (no (nof (by omega)))
     exact cf (by simp;omega) (yes (by omega))
    ·refine cf (by simp;omega) ?_
     by_cases g5:key=65533
     ·exact ct (by simpa using g5) (no (nof (by omega)))
     refine cf (by simpa using g5) ?_
     by_cases g6:1114112≤key
     ·exact ct (by simpa using g6) (no (nof (by omega)))
     exact cf (by simp;omega) (yes (by omega))
   ·refine cf (by simp;omega) ?_
    have:((runes s).all fun r=>!oddR r.2)=true:=by
     simp only[List.all_eq_true]
     intro r hr
     obtain⟨i,hi,rfl⟩:=List.getElem_of_mem hr
     rw[hs5 i hi (by omega)];rfl
    rw[this]
  ·rw[decide_eq_false h2]
   exact ct (by simp;omega) rfl
 ·rw[decide_eq_false h1]
  exact ct (by simp;omega) rfl
end Go.AM.SZ
namespace Go.AM.SZ
open Go Go.AM
theorem B_eq (t g1 g2 e:Bool) (k:Bool→Option D):F90.B t g1 g2 e k=k ((t&&(g1&&g2))||(!t&&e)):=by
 cases t<;>cases g1<;>cases g2<;>cases e<;>rfl
theorem C_eq (t g e:Bool) (k:Bool→Option D):F90.C t g e k=k ((t&&g)||(!t&&e)):=by
 cases t<;>cases g<;>cases e<;>rfl
theorem beq_bytes (a b:ByteArray):(a==b)=decide (a=b):=by
 obtain⟨x⟩:=a;obtain⟨y⟩:=b
 have:((⟨x⟩:ByteArray)==⟨y⟩)=(x==y):=rfl
 rw[this,Bool.eq_iff_iff];simp
theorem zeros_encA:da (rp 32 (D.int .u8 0))=sumD zeros:=by kernel_rfl
theorem W_spec (e:Ev) (least:Int) (t0 t1 t2 t3 t4:Bool) (hn:e.name.size≤1048576) (hs:e.sum.length=32) :
  F90.W0 e.enc (da [db t0,db t1,db t2,db t3,db t4]) least (db (nameB e.name))=some (db (((t0&&(decide (1≤e.id)&&decide (e.id≤1099511627776)))||(!t0&&decide (e.id=0))) &&
   ((((t1&&nameB e.name)||(!t1&&decide (e.name=bs [])))&&((((t2&&(decide (0≤e.time)&&decide (e.time≤1099511627776)))||(!t2&&decide (e.time=0))) &&
   ((((t3&&(decide (least≤e.len)&&decide (e.len≤600)))||(!t3&&decide (e.len=0)))&&(t4||e.sum==zeros))))))))):=by
 unfold F90.W0 F90.W1 F90.W2 F90.W3 F90.W4
 have a1:(e.enc.at 1).i=e.id:=rfl
 have a2:(e.enc.at 2).s=e.name:=rfl
 have a3:(e.enc.at 3).i=e.time:=rfl
 have a4:(e.enc.at 4).i=e.len:=rfl
 have a5:e.enc.at 5=sumD e.sum:=rfl
 have b0:((da [db t0,db t1,db t2,db t3,db t4]).at 0).b=t0:=rfl
 have b1:((da [db t0,db t1,db t2,db t3,db t4]).at 1).b=t1:=rfl
 have b2:((da [db t0,db t1,db t2,db t3,db t4]).at 2).b=t2:=rfl
 have b3:((da [db t0,db t1,db t2,db t3,db t4]).at 3).b=t3:=rfl
 have b4:((da [db t0,db t1,db t2,db t3,db t4]).at 4).b=t4:=rfl
 rw[a1,a2,a3,a4,a5,b0,b1,b2,b3,b4,B_eq,C_eq,B_eq,B_eq,zeros_encA]
 have h9:D.eqv ty eqDepth (sumD e.sum) (sumD zeros) (.array 32 5)=some (e.sum==zeros):=eqv_sum 14 hs (by simp[zeros])
 rw[h9]
 have i1:geI e.id 1=decide (1≤e.id):=rfl
 have i2:leI e.id 1099511627776=decide (e.id≤1099511627776):=rfl
 have i3:eqI e.id 0=decide (e.id=0):=by rw[Bool.eq_iff_iff];simp
 have i4:geI e.time 0=decide (0≤e.time):=rfl
 have i5:leI e.time 1099511627776=decide (e.time≤1099511627776):=rfl
 have i6:eqI e.time 0=decide (e.time=0):=by rw[Bool.eq_iff_iff];simp
 have i7:geI e.len least=decide (least≤e.len):=rfl
 have i8:leI e.len 600=decide (e.len≤600):=rfl
 have i9:eqI e.len 0=decide (e.len=0):=by rw[Bool.eq_iff_iff];simp
 have j1:eqS e.name (bs [])=decide (e.name=bs []):=by rw[Bool.eq_iff_iff];simp
 have j2:(D.bool (nameB e.name)).b=nameB e.name:=rfl
 rw[i1,i2,i3,i4,i5,i6,i7,i8,i9,j1,j2]
 generalize ((t0&&(decide (1≤e.id)&&decide (e.id≤1099511627776)))||(!t0&&decide (e.id=0)))=x0
 generalize ((t1&&nameB e.name)||(!t1&&decide (e.name=bs [])))=x1
 generalize ((t2&&(decide (0≤e.time)&&decide (e.time≤1099511627776)))||(!t2&&decide (e.time=0)))=x2
 generalize ((t3&&(decide (least≤e.len)&&decide (e.len≤600)))||(!t3&&decide (e.len=0)))=x3
 generalize (e.sum==zeros)=x4
 cases t4<;>cases x0<;>cases x1<;>cases x2<;>cases x3<;>rfl
theorem valid_ev (e:Ev) (hn:e.name.size≤1048576) (hs:e.sum.length=32):F90.s FUEL e.enc=some (db (evB e)):=by
 unfold F90.s
 have a0:(e.enc.at 0).i=e.kind:=rfl
 rw[a0]
 by_cases h0:e.kind<0
 ·exact ct (by simpa using h0) (by have:evB e=false:=by { unfold evB;simp;omega }
                                   rw[this])
 refine cf (by simp;omega) ?_
 by_cases h7:7<e.kind
 ·exact ct (by simpa using h7) (by have:evB e=false:=by { unfold evB;simp;omega }
                                   rw[this])
 refine cf (by simp;omega) ?_
 have hk:=kinds e (by omega) (by omega)
 rcases hk with h | h | h | h | h | h | h | h
 all_goals rw[h]
 ·refine bdS (x:=da [db true,db true,db false,db false,db false]) rfl (cf rfl (bdS (valid_ref e.name hn) ?_))
  rw[W_spec e 0 _ _ _ _ _ hn hs]
  congr 2
  rw[Bool.eq_iff_iff]
  simp[evB,evEq,evCanon,h,beq_bytes]
  grind
 ·refine bdS (x:=da [db true,db false,db false,db true,db false]) rfl (ct rfl (bdS (valid_ref e.name hn) ?_))
  rw[W_spec e 1 _ _ _ _ _ hn hs]
  congr 2
  rw[Bool.eq_iff_iff]
  simp[evB,evEq,evCanon,h,beq_bytes]
  grind
 ·refine bdS (x:=da [db true,db false,db true,db true,db true]) rfl (cf rfl (bdS (valid_ref e.name hn) ?_))
  rw[W_spec e 0 _ _ _ _ _ hn hs]
  congr 2
  rw[Bool.eq_iff_iff]
  simp[evB,evEq,evCanon,h,beq_bytes]
  grind
 ·refine bdS (x:=da [db true,db false,db true,db false,db false]) rfl (cf rfl (bdS (valid_ref e.name hn) ?_))
  rw[W_spec e 0 _ _ _ _ _ hn hs]
  congr 2
  rw[Bool.eq_iff_iff]
  simp[evB,evEq,evCanon,h,beq_bytes]
  grind
 ·refine bdS (x:=da [db true,db true,db false,db false,db false]) rfl (cf rfl (bdS (valid_ref e.name hn) ?_))
  rw[W_spec e 0 _ _ _ _ _ hn hs]
  congr 2
  rw[Bool.eq_iff_iff]
  simp[evB,evEq,evCanon,h,beq_bytes]
  grind
 ·refine bdS (x:=da [db true,db true,db false,db false,db false]) rfl (cf rfl (bdS (valid_ref e.name hn) ?_))
  rw[W_spec e 0 _ _ _ _ _ hn hs]
  congr 2
  rw[Bool.eq_iff_iff]
  simp[evB,evEq,evCanon,h,beq_bytes]
  grind
 ·refine bdS (x:=da [db true,db false,db false,db false,db false]) rfl (cf rfl (bdS (valid_ref e.name hn) ?_))
  rw[W_spec e 0 _ _ _ _ _ hn hs]
  congr 2
  rw[Bool.eq_iff_iff]
  simp[evB,evEq,evCanon,h,beq_bytes]
  grind
 ·refine bdS (x:=da [db false,db false,db true,db false,db false]) rfl (cf rfl (bdS (valid_ref e.name hn) ?_))
  rw[W_spec e 0 _ _ _ _ _ hn hs]
  congr 2
  rw[Bool.eq_iff_iff]
  simp[evB,evEq,evCanon,h,beq_bytes]
  grind
end Go.AM.SZ
namespace Go.AM.SZ
open Go Go.AM
def ofE (sum:ByteArray→List Int) (f:Fl):En:=⟨metaF f,(f.data.size:Int),if f.sealed=true then sum f.data else zeros⟩
def ofM (sum:ByteArray→List Int) (s:St):Bk:=⟨s.nn,s.files.map (ofE sum),s.last,s.floor⟩
theorem play_create {b:Bk} {e:Ev} (hv:evB e=true) (hk:e.kind=0) (h1:e.id-1=b.last) (h2:¬12≤b.es.length) (h3:¬0≤findI (fun x:En=>decide (x.file.name=e.name)) b.es) :
  playB b e=({ b with nn:=true,es:=b.es++[⟨⟨e.id,e.name,bs [],false,0,false,[]⟩,0,zeros⟩],last:=e.id },0):=by
 unfold playB
 rw[if_neg (by rw[hv];simp),if_neg (by omega),if_pos hk,if_neg (by omega),if_neg h2,if_neg h3]
theorem play_tick {b:Bk} {e:Ev} (hv:evB e=true) (hk:e.kind=7) (h1:¬e.time≤b.floor):playB b e=({ b with floor:=e.time },0):=by
 unfold playB
 rw[if_neg (by rw[hv];simp),if_pos hk,if_neg h1]
theorem eraseIdx_map' {α β:Type} (g:α→β):∀(l:List α) (i:Nat),(l.map g).eraseIdx i=(l.eraseIdx i).map g
 | [],_=>rfl
 | _::_,0=>rfl
 | _::l,i+1=>by simp[eraseIdx_map' g l i]
end Go.AM.SZ
