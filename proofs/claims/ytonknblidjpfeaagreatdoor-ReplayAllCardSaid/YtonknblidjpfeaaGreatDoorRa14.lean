/- Part 14 of the proof: the abstract machine, what the functions compute, and plain laws over that. -/
import Derived.Test.YtonknblidjpfeaaGreatDoorRa13
set_option linter.all false
set_option linter.unusedSimpArgs false
set_option linter.unusedVariables false
set_option linter.unusedSectionVars false
namespace Go.AM.SZ
open Go Go.AM
def nnd (f:Fl) (b:Bool):Fl:={ f with nn:=b }
theorem may_ref (f:Fl) (b:Bool) (floor:Int):F54.s FUEL (nnd f b).enc floor=some (di (mayN f floor)):=by
 unfold F54.s mayN
 have e3:((nnd f b).enc.at 3).b=f.sealed:=rfl
 have e4:((nnd f b).enc.at 4).i=f.until_:=rfl
 have e5:((nnd f b).enc.at 5).elems=f.holds.map dS:=rfl
 rw[e3,e4,e5]
 cases hs:f.sealed with
 | false=>exact ct rfl rfl
 | true=>
  refine cf rfl ?_
  rw[if_neg (by simp)]
  by_cases h1:floor<f.until_
  ·rw[if_pos h1];exact ct (by simpa using h1) rfl
  rw[if_neg h1]
  refine cf (by simp;omega) ?_
  by_cases h2:0<f.holds.length
  ·rw[if_pos h2];exact ct (by simp;omega) rfl
  ·rw[if_neg h2];exact cf (by simp only[gtI_f,nI_eq,List.length_map];omega) rfl
theorem timely_iff {t:Int}:timely t=false↔(t<0∨1099511627776<t):=by
 simp[timely];omega
theorem seal_ref (f:Fl) (b:Bool) (t:Int):F92.s FUEL (nnd f b).enc t=some (.tup [(nnd (sealF f t).1 b).enc,di (sealF f t).2]):=by
 unfold F92.s sealF
 have e3:((nnd f b).enc.at 3).b=f.sealed:=rfl
 rw[e3]
 cases hs:f.sealed with
 | true=>exact ct rfl (by rw[if_pos rfl])
 | false=>
  rw[if_neg (by simp)]
  refine cf rfl ?_
  by_cases h1:t<0
  ·rw[if_pos (timely_iff.2 (.inl h1))];exact ct (by simpa using h1) rfl
  refine cf (by simp;omega) ?_
  by_cases h2:1099511627776<t
  ·rw[if_pos (timely_iff.2 (.inr h2))];exact ct (by simpa using h2) rfl
  refine cf (by simp;omega) ?_
  rw[if_neg (by rw[timely_iff];omega)]
  rfl
theorem extend_ref (f:Fl) (b:Bool) (t:Int):F93.s FUEL (nnd f b).enc t=some (.tup [(nnd (extendF f t).1 b).enc,di (extendF f t).2]):=by
 unfold F93.s extendF
 have e3:((nnd f b).enc.at 3).b=f.sealed:=rfl
 have e4:((nnd f b).enc.at 4).i=f.until_:=rfl
 rw[e3,e4]
 cases hs:f.sealed with
 | false=>exact ct rfl (by rw[if_pos rfl])
 | true=>
  rw[if_neg (by simp)]
  refine cf rfl ?_
  by_cases h1:t<0
  ·rw[if_pos (timely_iff.2 (.inl h1))];exact ct (by simpa using h1) rfl
  refine cf (by simp;omega) ?_
  by_cases h2:1099511627776<t
  ·rw[if_pos (timely_iff.2 (.inr h2))];exact ct (by simpa using h2) rfl
  refine cf (by simp;omega) ?_
  rw[if_neg (by rw[timely_iff];omega)]
  by_cases h3:t<f.until_
  ·rw[if_pos h3];exact ct (by simpa using h3) rfl
  rw[if_neg h3]
  exact cf (by simp;omega) (by rw[←hs];rfl)
theorem place_ref (nn:Bool) (l:List ByteArray) (s:ByteArray) (hl:l.length≤1000):F135.s FUEL (dl nn (l.map dS)) s=some (di (findI (fun y=>decide (s=y)) l)):=by
 unfold F135.s
 refine goS_rule (fun t:F135.S2=>∃k:Nat,t=⟨dl nn (l.map dS),s,(k:Int)⟩∧k≤l.length∧∀i (h:i<l.length),i<k→decide (s=l[i])=false) (fun t=>l.length-t.i3.toNat) (fun o=>o=some (di (findI (fun y=>decide (s=y)) l))) ?_ _ _ ⟨0,rfl,by omega,by omega⟩ (by simp[FUEL];omega)
 rintro _ rec ⟨k,rfl,hk,hs⟩ hrec
 simp only[F135.st2]
 by_cases h1:k<l.length
 ·have hadd:ad .i64 (k:Int) 1=((k+1:Nat):Int):=by rw[ad64 (by omega) (by omega)];rfl
  refine ct (by simp;omega) (ct (by simp;omega) ?_)
  simp only[elems_slice,Int.toNat_natCast,ix_map h1,s_str]
  by_cases h2:l[k]=s
  ·refine ct (by simpa using h2) ?_
   rw[findI_some (findIdx_some_of h1 (fun i hi hik=>hs i hi hik) (by simp[h2]))]
  ·refine cf (by simpa using h2) ?_
   rw[hadd]
   refine hrec _ ⟨k+1,rfl,by omega,fun i hi hik=>?_⟩ (by simp;omega)
   by_cases h3:i=k
   ·subst h3;simpa using fun h=>h2 h.symm
   ·exact hs i hi (by omega)
 ·refine cf (by simp;omega) ?_
  rw[findI_none (findIdx_none_of fun i hi=>hs i hi (by omega))]
theorem ins_take {l:List D} {i:Nat} {x:D} (hi:i≤l.length):((ap (((ap ((((l.drop 0).take (i-0)).drop 0).take ((l.drop 0).take (i-0)).length) [x]).drop 0).take (((l.drop 0).take (i-0)).length+1)) ((l.drop i).take (l.length-i))).drop 0).take ((((l.drop 0).take (i-0)).length+1)+((l.drop i).take (l.length-i)).length)=l.take i++[x]++l.drop i:=by
 have h1:(l.drop i).take (l.length-i)=l.drop i:=List.take_of_length_le (by simp)
 rw[h1]
 have h2:((l.drop 0).take (i-0))=l.take i:=by simp
 rw[h2]
 have h3:(((l.take i).drop 0).take (l.take i).length)=l.take i:=by rw[List.drop_zero,List.take_length]
 rw[h3]
 unfold ap
 rw[List.drop_zero,List.drop_zero,List.take_of_length_le (by simp),List.take_of_length_le (by simp)]
theorem del_take {l:List D} {i:Nat} (hi:i<l.length):((ap ((((l.drop 0).take (i-0)).drop 0).take ((l.drop 0).take (i-0)).length) ((l.drop (i+1)).take (l.length-(i+1)))).drop 0).take (((l.drop 0).take (i-0)).length+((l.drop (i+1)).take (l.length-(i+1))).length)=l.eraseIdx i:=by
 have h1:(l.drop (i+1)).take (l.length-(i+1))=l.drop (i+1):=List.take_of_length_le (by simp)
 rw[h1]
 have h2:((l.drop 0).take (i-0))=l.take i:=by simp
 rw[h2]
 have h3:(((l.take i).drop 0).take (l.take i).length)=l.take i:=by rw[List.drop_zero,List.take_length]
 rw[h3]
 unfold ap
 rw[List.drop_zero,List.take_of_length_le (by simp),List.eraseIdx_eq_take_drop_succ]
theorem hold_ref (f:Fl) (b:Bool) (s:ByteArray) (hs:s.size≤1048576) (hh:f.holds.length≤1000) (hsz:∀x∈f.holds,x.size≤1048576):∃c,F94.s FUEL (nnd f b).enc s=some (.tup [(nnd (holdF f s).1 c).enc,di (holdF f s).2]):=by
 unfold F94.s holdF
 have e3:((nnd f b).enc.at 3).b=f.sealed:=rfl
 have e5:(nnd f b).enc.at 5=dl b (f.holds.map dS):=rfl
 rw[e3,e5]
 have hv:=valid_ref s hs
 by_cases h1:f.sealed=false
 ·exact⟨b,bdS hv (ct (by rw[h1];rfl) (by rw[if_pos h1]))⟩
 by_cases h2:nameB s=false
 ·exact⟨b,bdS hv (cf (by simpa using h1) (ct (by rw[h2];rfl) (by rw[if_neg h1,if_pos h2])))⟩
 have hp:=place_ref b f.holds s hh
 by_cases h3:hasB f.holds s=true
 ·exact⟨b,bdS hv (cf (by simpa using h1) (cf (by simpa using h2) (bdS hp (ct (by rw[i_int,geI_t];exact findI_nonneg.2 h3) (by rw[if_neg h1,if_neg h2,if_pos h3])))))⟩
 have h3':¬0≤findI (fun y=>decide (s=y)) f.holds:=fun h=>h3 (findI_nonneg.1 h)
 by_cases h4:4≤f.holds.length
 ·exact⟨b,bdS hv (cf (by simpa using h1) (cf (by simpa using h2) (bdS hp (cf (by rw[i_int,geI_f];omega) (ct (by simp;omega) (by rw[if_neg h1,if_neg h2,if_neg h3,if_pos h4]))))))⟩
 refine⟨true,bdS hv (cf (by simpa using h1) (cf (by simpa using h2) (bdS hp (cf (by rw[i_int,geI_f];omega) (cf (by simp;omega) ?_)))))⟩
 rw[if_neg h1,if_neg h2,if_neg h3,if_neg h4]
 have hel:((nnd f b).enc.at 5).elems=f.holds.map dS:=rfl
 have fin:∀i:Nat,i≤f.holds.length→insH s f.holds=f.holds.take i++[s]++f.holds.drop i →
   (cond (true&&(leI 0 (i:Int))&&(leI (i:Int) (nI (f.holds.map dS).length))&&(leI (nI (f.holds.map dS).length) (nI (f.holds.map dS).length))) (cond (mx (((f.holds.map dS).drop 0).take ((i:Int).toNat-0)).length) (cond (mx ((((f.holds.map dS).drop 0).take ((i:Int).toNat-0)).length+1)) (cond ((leI 0 (i:Int))&&(leI (i:Int) (nI (f.holds.map dS).length))&&(leI (nI (f.holds.map dS).length) (nI (f.holds.map dS).length))&&(leI (nI (f.holds.map dS).length) (nI (f.holds.map dS).length))) (cond (mx (((((f.holds.map dS).drop 0).take ((i:Int).toNat-0)).length+1)+(((f.holds.map dS).drop (i:Int).toNat).take ((f.holds.map dS).length-(i:Int).toNat)).length)) (some (D.tup [(da [((nnd f b).enc.at 0),((nnd f b).enc.at 1),((nnd f b).enc.at 2),((nnd f b).enc.at 3),((nnd f b).enc.at 4),(dl (((!(((f.holds.map dS).drop 0).take ((i:Int).toNat-0)).isEmpty)||true)||(!(((f.holds.map dS).drop (i:Int).toNat).take ((f.holds.map dS).length-(i:Int).toNat)).isEmpty)) (((ap (((ap (((((f.holds.map dS).drop 0).take ((i:Int).toNat-0)).drop 0).take (((f.holds.map dS).drop 0).take ((i:Int).toNat-0)).length) [(dS s)]).drop 0).take ((((f.holds.map dS).drop 0).take ((i:Int).toNat-0)).length+1)) (((f.holds.map dS).drop (i:Int).toNat).take ((f.holds.map dS).length-(i:Int).toNat))).drop 0).take (((((f.holds.map dS).drop 0).take ((i:Int).toNat-0)).length+1)+(((f.holds.map dS).drop (i:Int).toNat).take ((f.holds.map dS).length-(i:Int).toNat)).length)))]),(di 0)])) none) none) none) none) none) =
   some (.tup [(nnd { f with nn:=true,holds:=insH s f.holds } true).enc,di 0]):=by
  intro i hi hins
  have hl:(f.holds.map dS).length=f.holds.length:=List.length_map _
  rw[Int.toNat_natCast,ins_take (by rw[hl];exact hi)]
  refine ct (by simp;omega) (ct (by simp;omega) (ct (by simp;omega) (ct (by simp;omega) (ct (by simp;omega) ?_))))
  have:(f.holds.map dS).take i++[dS s]++(f.holds.map dS).drop i=(insH s f.holds).map dS:=by rw[hins];simp
  rw[this,Bool.or_true,Bool.true_or]
  rfl
 refine goS_rule (fun t:F94.S11=>∃k:Nat,t=⟨s,(k:Int),(nnd f b).enc,0,bs [],bs [],false,0,false,[]⟩∧k≤f.holds.length∧∀i (h:i<f.holds.length),i<k→(!lessB f.holds[i] s)=false) (fun t=>f.holds.length-t.i4.toNat) (fun o=>o=some (.tup [(nnd { f with nn:=true,holds:=insH s f.holds } true).enc,di 0])) ?_ _ _ ⟨0,rfl,by omega,by omega⟩ (by simp[FUEL];omega)
 rintro _ rec ⟨k,rfl,hk,hlt⟩ hrec
 simp only[F94.st11]
 rw[hel]
 by_cases g1:k<f.holds.length
 ·have hadd:ad .i64 (k:Int) 1=((k+1:Nat):Int):=by rw[ad64 (by omega) (by omega)];rfl
  refine ct (by simp;omega) (ct (by simp;omega) ?_)
  rw[Int.toNat_natCast,ix_map g1,s_str,hadd]
  refine bdS (less_ref _ _ (hsz _ (List.getElem_mem g1)) hs) ?_
  cases hls:lessB f.holds[k] s with
  | false=>
   refine ct rfl ?_
   refine fin k (by omega) ?_
   unfold insH
   rw[findIdx_some_of g1 hlt (by rw[hls];rfl)]
  | true=>
   refine cf rfl ?_
   refine hrec _ ⟨k+1,rfl,by omega,fun i hi hik=>?_⟩ (by simp;omega)
   by_cases h3:i=k
   ·subst h3;rw[hls];rfl
   ·exact hlt i hi (by omega)
 ·refine cf (by simp;omega) ?_
  refine fin k (by omega) ?_
  unfold insH
  rw[findIdx_none_of fun i hi=>hlt i hi (by omega)]
  have:k=f.holds.length:=by omega
  subst this
  simp
theorem release_ref (f:Fl) (b:Bool) (s:ByteArray) (hh:f.holds.length≤1000):∃c,F95.s FUEL (nnd f b).enc s=some (.tup [(nnd (releaseF f s).1 c).enc,di (releaseF f s).2]):=by
 unfold F95.s releaseF
 have e5:(nnd f b).enc.at 5=dl b (f.holds.map dS):=rfl
 rw[e5]
 have hp:=place_ref b f.holds s hh
 cases hx:f.holds.findIdx? (fun y=>decide (s=y)) with
 | none=>
  rw[findI_none hx] at hp
  exact⟨b,bdS hp (ct (by simp) rfl)⟩
 | some i=>
  rw[findI_some hx] at hp
  have hi:=findIdx_lt hx
  have hl:(f.holds.map dS).length=f.holds.length:=List.length_map _
  have hadd:ad .i64 (i:Int) 1=((i+1:Nat):Int):=by rw[ad64 (by omega) (by omega)];rfl
  refine⟨((!(((f.holds.map dS).drop 0).take (i-0)).isEmpty)||(!(((f.holds.map dS).drop (i+1)).take ((f.holds.map dS).length-(i+1))).isEmpty)),bdS hp (cf (by simp) ?_)⟩
  simp only[i_int,elems_slice,hadd,Int.toNat_natCast]
  rw[del_take (by rw[hl];exact hi),eraseIdx_map']
  exact ct (by simp;omega) (ct (by simp;omega) (ct (by simp;omega) (ct (by simp;omega) rfl)))
end Go.AM.SZ
namespace Go.AM.SZ
open Go Go.AM
namespace F28
end F28
end Go.AM.SZ
namespace Go.AM.SZ
open Go Go.AM
def u32 (x:Int):Prop:=0≤x∧x<4294967296
theorem wrap32 (n:Int):IntKind.wrap .u32 n=n%4294967296:=by simp[IntKind.wrap,IntKind.signed,IntKind.bits]
theorem ad32 (a b:Int):ad .u32 a b=(a+b)%4294967296:=wrap32 _
theorem sb32 (a b:Int):sb .u32 a b=(a-b)%4294967296:=wrap32 _
theorem ml32 (a b:Int):ml .u32 a b=(a*b)%4294967296:=wrap32 _
theorem cv32 (a:Int):cv .u32 a=a%4294967296:=wrap32 _
theorem wrap_u32 (n:Int):u32 (IntKind.wrap .u32 n):=by rw[wrap32];unfold u32;omega
theorem wrap_id {n:Int} (h:u32 n):IntKind.wrap .u32 n=n:=by rw[wrap32];unfold u32 at h;omega
def rr (x:Nat) (n:Nat):Nat:=x / 2^n+(x%2^n)*2^(32-n)
def rI (x:Int) (n:Nat):Int:=(rr x.toNat n:Int)
theorem rr_zero (x:Nat):rr x 0=x:=by simp[rr,Nat.mod_one]
theorem rr_lt {x n:Nat} (hx:x<4294967296) (hn:n≤32):rr x n<4294967296:=by
 have h1:2^n*2^(32-n)=4294967296:=by rw[←Nat.pow_add,show n+(32-n)=32 by omega]
 have hp:0<2^n:=Nat.two_pow_pos n
 have h2:x / 2^n<2^(32-n):=by rw[Nat.div_lt_iff_lt_mul hp,Nat.mul_comm];omega
 have h3:(x%2^n)<2^n:=Nat.mod_lt _ hp
 have h4:(x%2^n+1)*2^(32-n)≤2^n*2^(32-n):=Nat.mul_le_mul_right _ h3
 rw[Nat.add_mul,Nat.one_mul,h1] at h4
 unfold rr
 omega
theorem rr_step {x n:Nat} (hn:n≤31):rr x (n+1)=rr x n / 2+rr x n%2*2147483648:=by
 have hp:0<2^n:=Nat.two_pow_pos n
 have e32:2^(32-n)=2*2^(31-n):=by rw[show 32-n=(31-n)+1 by omega,Nat.pow_succ];omega
 have e31:2^n*2^(31-n)=2147483648:=by rw[←Nat.pow_add,show n+(31-n)=31 by omega]
 have d:x / 2^(n+1)=x / 2^n / 2:=by rw[Nat.pow_succ,Nat.div_div_eq_div_mul]
 have m:x%2^(n+1)=x%2^n+2^n*(x / 2^n%2):=by rw[Nat.pow_succ,Nat.mod_mul]
 unfold rr
 rw[d,m,e32,show 32-(n+1)=31-n by omega,Nat.add_mul,Nat.mul_right_comm,e31]
 generalize x / 2^n=q
 generalize x%2^n=r
 have e:r*(2*2^(31-n))=2*(r*2^(31-n)):=by rw[Nat.mul_left_comm]
 rw[e]
 generalize r*2^(31-n)=z
 omega
theorem or_add {a b n:Nat} (hb:b<2^n):a*2^n ||| b=a*2^n+b:=by
 rw[←Nat.shiftLeft_eq,Nat.shiftLeft_add_eq_or_of_lt hb]
theorem ofInt_nat {a:Nat} (ha:a<4294967296):(BitVec.ofInt 32 (a:Int)).toNat=a:=by
 rw[BitVec.toNat_ofInt];omega
theorem orI32 {a b:Nat} (ha:a<4294967296) (hb:b<4294967296):orI .u32 (a:Int) (b:Int)=((a ||| b:Nat):Int):=by
 unfold orI
 show IntKind.wrap .u32 ((BitVec.ofInt 32 (a:Int) ||| BitVec.ofInt 32 (b:Int)).toNat:Int)=_
 rw[BitVec.toNat_or,ofInt_nat ha,ofInt_nat hb,wrap_id]
 have:a ||| b<2^32:=Nat.or_lt_two_pow ha hb
 unfold u32;omega
theorem not32 {e:Int} (h:u32 e):notI .u32 e=sb .u32 4294967295 e:=by
 obtain⟨a,rfl⟩:∃a:Nat,e=a:=⟨e.toNat,by unfold u32 at h;omega⟩
 have ha:a<4294967296:=by unfold u32 at h;omega
 unfold notI
 show IntKind.wrap .u32 ((BitVec.ofInt 32 4294967295 ^^^ BitVec.ofInt 32 (a:Int)).toNat:Int)=_
 have e1:(BitVec.ofInt 32 4294967295 ^^^ BitVec.ofInt 32 (a:Int)).toNat=4294967295-a:=by
  have:BitVec.ofInt 32 4294967295=BitVec.allOnes 32:=by decide
  rw[this,BitVec.allOnes_xor,BitVec.toNat_not,ofInt_nat ha]
 rw[e1,wrap32,sb32]
 omega
theorem right_real {x:Int} (hx:u32 x) (n:Int) (k:Nat) (hk:1≤k∧k≤31) (hn:andI .u64 (cv .u64 (sb .i64 0 n)) 31=((32-k:Nat):Int)):F133.s FUEL x n=some (D.int .u32 (rI x k)):=by
 obtain⟨a,rfl⟩:∃a:Nat,x=a:=⟨x.toNat,by unfold u32 at hx;omega⟩
 have ha:a<4294967296:=by unfold u32 at hx;omega
 unfold F133.s F146.s
 rw[hn]
 have hs:sb .u64 32 ((32-k:Nat):Int)=(k:Int):=by
  have:∀m:Int,IntKind.wrap .u64 m=m%18446744073709551616:=fun m=>by simp[IntKind.wrap,IntKind.signed,IntKind.bits]
  unfold sb
  rw[this]
  omega
 rw[hs,if_neg (by omega),bd_some,if_neg (by omega),bd_some,bd_some,Int.toNat_natCast,Int.toNat_natCast]
 have hp:0<2^k:=Nat.two_pow_pos k
 have h1:2^k*2^(32-k)=4294967296:=by rw[←Nat.pow_add,show k+(32-k)=32 by omega]
 have h2:a / 2^k<2^(32-k):=by rw[Nat.div_lt_iff_lt_mul hp,Nat.mul_comm];omega
 have e1:shlI .u32 (a:Int) (32-k)=((a%2^k*2^(32-k):Nat):Int):=by
  unfold shlI
  rw[show min (32-k) (IntKind.bits .u32)=32-k from Nat.min_eq_left (by show 32-k≤32;omega),wrap32]
  have:((a:Int)*2^(32-k))%4294967296=((a*2^(32-k)%(2^k*2^(32-k)):Nat):Int):=by rw[h1];simp
  rw[this,Nat.mul_mod_mul_right]
 have e2:shrI .u32 (a:Int) k=((a / 2^k:Nat):Int):=by
  unfold shrI
  rw[show min k (IntKind.bits .u32)=k from Nat.min_eq_left (by show k≤32;omega),Int.fdiv_eq_ediv_of_nonneg _ (by exact Int.le_of_lt (by exact_mod_cast hp))]
  simp
 have h3:a%2^k*2^(32-k)<4294967296:=by
  have:(a%2^k)<2^k:=Nat.mod_lt _ hp
  have:(a%2^k+1)*2^(32-k)≤2^k*2^(32-k):=Nat.mul_le_mul_right _ this
  rw[Nat.add_mul,Nat.one_mul,h1] at this
  have:=Nat.two_pow_pos (32-k)
  omega
 have h4:a / 2^k<4294967296:=Nat.lt_of_le_of_lt (Nat.div_le_self _ _) ha
 show some (D.int .u32 (orI .u32 (shlI .u32 (a:Int) (32-k)) (shrI .u32 (a:Int) k)))=_
 rw[e1,e2,orI32 h3 h4,or_add h2,Nat.add_comm]
 rfl
theorem quo32 {a:Nat} (b:Nat) (ha:a<4294967296):quoI .u32 (a:Int) (b:Int)=((a / b:Nat):Int):=by
 unfold quoI
 have:(a:Int).tdiv (b:Int)=((a / b:Nat):Int):=rfl
 have h:=Nat.div_le_self a b
 rw[this,wrap_id]
 generalize a / b=q at h
 unfold u32;omega
theorem right_ref {x:Int} (hx:u32 x) (n:Nat) (hn:n≤32):F99.s FUEL x (n:Int)=some (D.int .u32 (rI x n)):=by
 obtain⟨a,rfl⟩:∃a:Nat,x=a:=⟨x.toNat,by unfold u32 at hx;omega⟩
 have ha:a<4294967296:=by unfold u32 at hx;omega
 unfold F99.s
 refine goS_rule (fun t:F99.S2=>∃k:Nat,t=⟨(rr a k:Int),(n:Int),(k:Int)⟩∧k≤n) (fun t=>n-t.i3.toNat) (fun o=>o=some (D.int .u32 (rI a n))) ?_ _ _ ⟨0,by rw[rr_zero];rfl,by omega⟩ (by simp[FUEL];omega)
 rintro _ rec ⟨k,rfl,hk⟩ hrec
 simp only[F99.st2]
 by_cases h1:k<n
 ·have hlt:=rr_lt ha (n:=k) (by omega)
  have hst:=rr_step (x:=a) (n:=k) (by omega)
  have hadd:ad .i64 (k:Int) 1=((k+1:Nat):Int):=by rw[ad64 (by omega) (by omega)];rfl
  have hr:remI (rr a k:Int) 2=((rr a k%2:Nat):Int):=rfl
  have hq:quoI .u32 (rr a k:Int) 2=((rr a k / 2:Nat):Int):=quo32 2 hlt
  refine ct (by simp;omega) ?_
  rw[hr,hq,hadd]
  by_cases h2:rr a k%2=1
  ·refine ct (by simp;omega) ?_
   have:ad .u32 ((rr a k / 2:Nat):Int) 2147483648=(rr a (k+1):Int):=by rw[ad32,hst,h2];omega
   rw[this]
   exact hrec _ ⟨k+1,rfl,by omega⟩ (by simp;omega)
  ·refine cf (by simp;omega) ?_
   have:((rr a k / 2:Nat):Int)=(rr a (k+1):Int):=by rw[hst];omega
   rw[this]
   exact hrec _ ⟨k+1,rfl,by omega⟩ (by simp;omega)
 ·refine cf (by simp;omega) ?_
  have:k=n:=by omega
  subst this
  rfl
theorem shift_ref {x:Int} (hx:u32 x) (n:Nat) (hn:n≤32):F100.s FUEL x (n:Int)=some (D.int .u32 ((x.toNat / 2^n:Nat):Int)):=by
 obtain⟨a,rfl⟩:∃a:Nat,x=a:=⟨x.toNat,by unfold u32 at hx;omega⟩
 have ha:a<4294967296:=by unfold u32 at hx;omega
 unfold F100.s
 refine goS_rule (fun t:F100.S2=>∃k:Nat,t=⟨((a / 2^k:Nat):Int),(n:Int),(k:Int)⟩∧k≤n) (fun t=>n-t.i3.toNat) (fun o=>o=some (D.int .u32 (((a:Int).toNat / 2^n:Nat):Int))) ?_ _ _ ⟨0,by simp,by omega⟩ (by simp[FUEL];omega)
 rintro _ rec ⟨k,rfl,hk⟩ hrec
 simp only[F100.st2]
 by_cases h1:k<n
 ·have hlt:a / 2^k<4294967296:=Nat.lt_of_le_of_lt (Nat.div_le_self _ _) ha
  have hadd:ad .i64 (k:Int) 1=((k+1:Nat):Int):=by rw[ad64 (by omega) (by omega)];rfl
  have hq:quoI .u32 ((a / 2^k:Nat):Int) 2=((a / 2^k / 2:Nat):Int):=quo32 2 hlt
  refine ct (by simp;omega) ?_
  rw[hq,hadd,Nat.div_div_eq_div_mul,←Nat.pow_succ]
  exact hrec _ ⟨k+1,rfl,by omega⟩ (by simp;omega)
 ·refine cf (by simp;omega) ?_
  have:k=n:=by omega
  subst this
  rfl
theorem shr_real {x:Int} (hx:u32 x) (n:Nat) (hn:n≤32):shrI .u32 x n=((x.toNat / 2^n:Nat):Int):=by
 obtain⟨a,rfl⟩:∃a:Nat,x=a:=⟨x.toNat,by unfold u32 at hx;omega⟩
 have hp:0<2^n:=Nat.two_pow_pos n
 unfold shrI
 rw[show min n (IntKind.bits .u32)=n from Nat.min_eq_left (by show n≤32;omega),Int.fdiv_eq_ediv_of_nonneg _ (by exact Int.le_of_lt (by exact_mod_cast hp))]
 simp
end Go.AM.SZ
namespace Go.AM.SZ
open Go Go.AM
def S0 (x:Int):Int:=xorI .u32 (xorI .u32 (rI x 7) (rI x 18)) ((x.toNat / 2^3:Nat):Int)
def S1 (y:Int):Int:=xorI .u32 (xorI .u32 (rI y 17) (rI y 19)) ((y.toNat / 2^10:Nat):Int)
def wv (b:Nat→Int) (t:Nat) (w:List Int):Int:=
 if t<16 then b (4*t)*16777216+b (4*t+1)*65536+b (4*t+2)*256+b (4*t+3)
 else (w.getD (t-16) 0+S0 (w.getD (t-15) 0)+w.getD (t-7) 0+S1 (w.getD (t-2) 0))%4294967296
def wl (b:Nat→Int):Nat→List Int
 | 0=>List.replicate 64 0
 | t+1=>(wl b t).set t (wv b t (wl b t))
def T1 (k w:Int) (v:List Int):Int:=
 ad .u32 (ad .u32 (ad .u32 (ad .u32 (v.getD 7 0) (xorI .u32 (xorI .u32 (rI (v.getD 4 0) 6) (rI (v.getD 4 0) 11)) (rI (v.getD 4 0) 25)))
  (xorI .u32 (andI .u32 (v.getD 4 0) (v.getD 5 0)) (andI .u32 (sb .u32 4294967295 (v.getD 4 0)) (v.getD 6 0)))) k) w
def T2 (v:List Int):Int:=
 ad .u32 (xorI .u32 (xorI .u32 (rI (v.getD 0 0) 2) (rI (v.getD 0 0) 13)) (rI (v.getD 0 0) 22))
  (xorI .u32 (xorI .u32 (andI .u32 (v.getD 0 0) (v.getD 1 0)) (andI .u32 (v.getD 0 0) (v.getD 2 0))) (andI .u32 (v.getD 1 0) (v.getD 2 0)))
def rnd (k w:Int) (v:List Int):List Int:=
 [ad .u32 (T1 k w v) (T2 v),v.getD 0 0,v.getD 1 0,v.getD 2 0,ad .u32 (v.getD 3 0) (T1 k w v),v.getD 4 0,v.getD 5 0,v.getD 6 0]
def vl (h w:List Int):Nat→List Int
 | 0=>h
 | t+1=>rnd (K0.getD t 0) (w.getD t 0) (vl h w t)
def al (h v:List Int):Nat→List Int
 | 0=>h
 | m+1=>(al h v m).set m (ad .u32 ((al h v m).getD m 0) (v.getD m 0))
def mixV (h:List Int) (b:Nat→Int):List Int:=al h (vl h (wl b 64) 64) 8
def hv (t:ByteArray):Nat→List Int
 | 0=>H0
 | m+1=>mixV (hv t m) fun j=>byteAt t (64*m+j)
def ob (h:List Int) (k:Nat):Int:=(((h.getD (k / 4) 0).toNat / 256^(3-k%4)%256:Nat):Int)
def ol (h:List Int):Nat→List Int
 | 0=>zeros
 | k+1=>(ol h k).set k (ob h k)
def be:Nat→Nat→List D
 | 0,_=>[]
 | m+1,n=>D.int .u8 ((n / 256^m%256:Nat):Int)::be m n
def padZ (n:Nat):Nat:=(119-n%64)%64
def padL (b:ByteArray):List D:=(bytesOf b++[D.int .u8 128]++List.replicate (padZ b.size) (D.int .u8 0))++be 8 (8*b.size)
def padV (b:ByteArray):ByteArray:=ofBytes (padL b)
def shaV (b:ByteArray):List Int:=ol (hv (padV b) ((padV b).size / 64)) 32
theorem wl_len (b:Nat→Int):∀t,(wl b t).length=64
 | 0=>by simp[wl]
 | t+1=>by simp[wl,wl_len b t]
theorem al_len (h v:List Int):∀m,(al h v m).length=h.length
 | 0=>rfl
 | m+1=>by simp[al,al_len h v m]
theorem be_len (n:Nat):∀m,(be m n).length=m
 | 0=>rfl
 | m+1=>by simp[be,be_len n m]
theorem padL_len (b:ByteArray):(padL b).length=b.size+9+padZ b.size:=by
 simp[padL,be_len,bytesOf_len];omega
theorem padV_size (b:ByteArray):(padV b).size=b.size+9+padZ b.size:=by rw[padV,ofBytes_size,padL_len]
theorem padV_64 (b:ByteArray):(padV b).size%64=0:=by rw[padV_size];unfold padZ;omega
def allU (l:List Int):Prop:=∀x∈l,u32 x
theorem u32_zero:u32 0:=⟨by omega,by omega⟩
theorem allU_get {l:List Int} (h:allU l) (i:Nat):u32 (l.getD i 0):=by
 rw[List.getD_eq_getElem?_getD]
 cases hi:l[i]? with
 | none=>exact u32_zero
 | some x=>exact h x (List.mem_of_getElem? hi)
theorem allU_set {l:List Int} (h:allU l) {i:Nat} {x:Int} (hx:u32 x):allU (l.set i x):=by
 intro y hy
 rcases List.mem_or_eq_of_mem_set hy with h' | rfl
 ·exact h y h'
 ·exact hx
def bytesB (b:Nat→Int):Prop:=∀j,0≤b j∧b j<256
theorem wv_u32 {b:Nat→Int} (hb:bytesB b) (t:Nat) (w:List Int):u32 (wv b t w):=by
 unfold wv u32
 have h0:=hb (4*t)
 have h1:=hb (4*t+1)
 have h2:=hb (4*t+2)
 have h3:=hb (4*t+3)
 split<;>omega
theorem wl_u32 {b:Nat→Int} (hb:bytesB b):∀t,allU (wl b t)
 | 0=>fun x hx=>by rw[List.eq_of_mem_replicate hx];exact u32_zero
 | t+1=>allU_set (wl_u32 hb t) (wv_u32 hb t _)
theorem wl_zero (b:Nat→Int):∀t k,t≤k→k<64→(wl b t).getD k 0=0
 | 0,k,_,h=>by
  show (List.replicate 64 (0:Int)).getD k 0=0
  rw[List.getD_eq_getElem?_getD,List.getElem?_replicate,if_pos h];rfl
 | t+1,k,h1,h2=>by
  have:=wl_zero b t k (by omega) h2
  rw[List.getD_eq_getElem?_getD] at this ⊢
  rw[wl,List.getElem?_set_ne (by omega)]
  exact this
theorem wl_congr {b c:Nat→Int} (h:∀j,j<64→b j=c j):∀t,t≤64→wl b t=wl c t
 | 0,_=>rfl
 | t+1,ht=>by
  have ih:=wl_congr h t (by omega)
  rw[wl,wl,ih]
  congr 1
  unfold wv
  split
  ·rw[h _ (by omega),h _ (by omega),h _ (by omega),h _ (by omega)]
  ·rfl
theorem ad_u32 (a b:Int):u32 (ad .u32 a b):=wrap_u32 _
theorem rnd_u32 {k w:Int} {v:List Int} (hv:allU v):allU (rnd k w v):=by
 intro x hx
 simp only[rnd,List.mem_cons,List.not_mem_nil,or_false] at hx
 rcases hx with rfl | rfl | rfl | rfl | rfl | rfl | rfl | rfl
 all_goals first | exact ad_u32 _ _ | exact allU_get hv _
theorem vl_u32 {h w:List Int} (hh:allU h):∀t,allU (vl h w t)
 | 0=>hh
 | t+1=>rnd_u32 (vl_u32 hh t)
theorem vl_len {h w:List Int} (hh:h.length=8):∀t,(vl h w t).length=8
 | 0=>hh
 | t+1=>rfl
theorem al_u32 {h v:List Int} (hh:allU h):∀m,allU (al h v m)
 | 0=>hh
 | m+1=>allU_set (al_u32 hh m) (ad_u32 _ _)
theorem H0_u32:allU H0:=by unfold allU u32 H0;decide
theorem hv_u32 (t:ByteArray):∀m,allU (hv t m)
 | 0=>H0_u32
 | m+1=>al_u32 (hv_u32 t m) 8
theorem hv_len (t:ByteArray):∀m,(hv t m).length=8
 | 0=>rfl
 | m+1=>by rw[hv,mixV,al_len,hv_len t m]
theorem byte_b (t:ByteArray) (m:Nat):bytesB fun j=>byteAt t (m+j):=fun j=>byteAt_range t _
theorem w32_at {l:List Int} {i:Nat} (h:i<l.length):(w32 l).at i=D.int .u32 (l.getD i 0):=by
 unfold w32
 simp[List.getD_eq_getElem?_getD,h]
theorem list8 {l:List Int} (h:l.length=8):∃a b c d e f g i,l=[a,b,c,d,e,f,g,i]:=by
 match l,h with
 | [a,b,c,d,e,f,g,i],_=>exact⟨a,b,c,d,e,f,g,i,rfl⟩
theorem word4 {x0 x1 x2 x3:Int} (h0:0≤x0∧x0<256) (h1:0≤x1∧x1<256) (h2:0≤x2∧x2<256) (h3:0≤x3∧x3<256) :
  orI .u32 (orI .u32 (orI .u32 (shlI .u32 (cv .u32 x0) 24) (shlI .u32 (cv .u32 x1) 16)) (shlI .u32 (cv .u32 x2) 8)) (cv .u32 x3)=x0*16777216+x1*65536+x2*256+x3:=by
 obtain⟨a,rfl⟩:∃a:Nat,x0=a:=⟨x0.toNat,by omega⟩
 obtain⟨b,rfl⟩:∃a:Nat,x1=a:=⟨x1.toNat,by omega⟩
 obtain⟨c,rfl⟩:∃a:Nat,x2=a:=⟨x2.toNat,by omega⟩
 obtain⟨d,rfl⟩:∃a:Nat,x3=a:=⟨x3.toNat,by omega⟩
 have sh:∀(x:Nat) (n m:Nat),n≤32→2^n=m→x*m<4294967296→shlI .u32 (x:Int) n=((x*m:Nat):Int):=by
  intro x n m hn hm hx
  unfold shlI
  rw[show min n (IntKind.bits .u32)=n from Nat.min_eq_left (by show n≤32;omega),wrap32]
  have:(x:Int)*2^n=((x*m:Nat):Int):=by rw[←hm];simp
  rw[this];omega
 have e:∀x:Nat,x<256→cv .u32 (x:Int)=(x:Int):=fun x hx=>by rw[cv32];omega
 rw[e a (by omega),e b (by omega),e c (by omega),e d (by omega),sh a 24 16777216 (by omega) (by decide) (by omega),sh b 16 65536 (by omega) (by decide) (by omega),sh c 8 256 (by omega) (by decide) (by omega)]
 rw[orI32 (by omega) (by omega),show a*16777216 ||| b*65536=(a*256+b)*65536 from by
   have:=or_add (a:=a) (b:=b*65536) (n:=24) (by omega)
   rw[show (2:Nat)^24=16777216 by decide] at this;rw[this];omega]
 rw[orI32 (by omega) (by omega),show (a*256+b)*65536 ||| c*256=(a*65536+b*256+c)*256 from by
   have:=or_add (a:=a*256+b) (b:=c*256) (n:=16) (by omega)
   rw[show (2:Nat)^16=65536 by decide] at this;rw[this];omega]
 rw[orI32 (by omega) (by omega),show (a*65536+b*256+c)*256 ||| d=a*16777216+b*65536+c*256+d from by
   have:=or_add (a:=a*65536+b*256+c) (b:=d) (n:=8) (by omega)
   rw[show (2:Nat)^8=256 by decide] at this;rw[this];omega]
 omega
theorem rr_real {x:Int} (hx:u32 x) :
  F133.s FUEL x 7=some (D.int .u32 (rI x 7))∧F133.s FUEL x 18=some (D.int .u32 (rI x 18))∧F133.s FUEL x 17=some (D.int .u32 (rI x 17))∧F133.s FUEL x 19=some (D.int .u32 (rI x 19)) ∧
  F133.s FUEL x 6=some (D.int .u32 (rI x 6))∧F133.s FUEL x 11=some (D.int .u32 (rI x 11))∧F133.s FUEL x 25=some (D.int .u32 (rI x 25)) ∧
  F133.s FUEL x 2=some (D.int .u32 (rI x 2))∧F133.s FUEL x 13=some (D.int .u32 (rI x 13))∧F133.s FUEL x 22=some (D.int .u32 (rI x 22)):=
 ⟨right_real hx 7 7 (by omega) (by decide),right_real hx 18 18 (by omega) (by decide),right_real hx 17 17 (by omega) (by decide),right_real hx 19 19 (by omega) (by decide),
  right_real hx 6 6 (by omega) (by decide),right_real hx 11 11 (by omega) (by decide),right_real hx 25 25 (by omega) (by decide),
  right_real hx 2 2 (by omega) (by decide),right_real hx 13 13 (by omega) (by decide),right_real hx 22 22 (by omega) (by decide)⟩
theorem rr_ref {x:Int} (hx:u32 x) :
  F99.s FUEL x 7=some (D.int .u32 (rI x 7))∧F99.s FUEL x 18=some (D.int .u32 (rI x 18))∧F99.s FUEL x 17=some (D.int .u32 (rI x 17))∧F99.s FUEL x 19=some (D.int .u32 (rI x 19)) ∧
  F99.s FUEL x 6=some (D.int .u32 (rI x 6))∧F99.s FUEL x 11=some (D.int .u32 (rI x 11))∧F99.s FUEL x 25=some (D.int .u32 (rI x 25)) ∧
  F99.s FUEL x 2=some (D.int .u32 (rI x 2))∧F99.s FUEL x 13=some (D.int .u32 (rI x 13))∧F99.s FUEL x 22=some (D.int .u32 (rI x 22)):=
 ⟨right_ref hx 7 (by omega),right_ref hx 18 (by omega),right_ref hx 17 (by omega),right_ref hx 19 (by omega),right_ref hx 6 (by omega),right_ref hx 11 (by omega),right_ref hx 25 (by omega),
  right_ref hx 2 (by omega),right_ref hx 13 (by omega),right_ref hx 22 (by omega)⟩
theorem words_real (s:ByteArray) (hs:s.size=64):F132.s FUEL s=some (w32 (wl (fun j=>byteAt s j) 64)):=by
 have hb:bytesB fun j=>byteAt s j:=fun j=>byteAt_range s _
 generalize hB:(fun j=>byteAt s j)=B at hb
 have hBj:∀j,byteAt s j=B j:=fun j=>by rw[←hB]
 unfold F132.s
 refine goS_rule (fun t=>∃(k:Nat) (d3:D),t=⟨s,(k:Int),d3,w32 (wl B k)⟩∧k≤64) (fun t=>64-t.i2.toNat) (fun o=>o=some (w32 (wl B 64))) ?_ _ _ ⟨0,_,rfl,by omega⟩ (by simp[FUEL])
 rintro _ rec ⟨k,d3,rfl,hk⟩ hrec
 simp only[F132.st3]
 have hwl:=wl_len B k
 by_cases h1:k<64
 ·have hadd:ad .i64 (k:Int) 1=((k+1:Nat):Int):=by rw[ad64 (by omega) (by omega)];rfl
  have fin:∀x:Int,x=wv B k (wl B k)→rec ⟨s,ad .i64 (k:Int) 1,d3,D.agg ((w32 (wl B k)).parts.set (Int.toNat (k:Int)) (D.int .u32 x))⟩=some (w32 (wl B 64)):=by
   intro x hx
   rw[hadd,w32_set,Int.toNat_natCast,hx]
   exact hrec _ ⟨k+1,d3,rfl,by omega⟩ (by simp;omega)
  refine ct (by simp;omega) ?_
  by_cases h2:k<16
  ·have hm:ml .i64 4 (k:Int)=((4*k:Nat):Int):=by rw[ml64 (by omega) (by omega)];omega
   have ha:∀j:Nat,j≤3→ad .i64 ((4*k:Nat):Int) (j:Int)=((4*k+j:Nat):Int):=fun j hj=>by rw[ad64 (by omega) (by omega)];omega
   refine ct (by simp;omega) ?_
   rw[hm,show (1:Int)=((1:Nat):Int) from rfl,show (2:Int)=((2:Nat):Int) from rfl,show (3:Int)=((3:Nat):Int) from rfl,ha 1 (by omega),ha 2 (by omega),ha 3 (by omega)]
   refine ct (by simp;omega) (ct (by simp;omega) (ct (by simp;omega) (ct (by simp;omega) (ct (by simp;omega) ?_))))
   refine fin _ ?_
   simp only[Int.toNat_natCast]
   rw[word4 (byteAt_range _ _) (byteAt_range _ _) (byteAt_range _ _) (byteAt_range _ _),wv,if_pos h2,hBj,hBj,hBj,hBj]
  ·have hs15:sb .i64 (k:Int) 15=((k-15:Nat):Int):=by rw[sb64 (by omega) (by omega)];omega
   have hs2:sb .i64 (k:Int) 2=((k-2:Nat):Int):=by rw[sb64 (by omega) (by omega)];omega
   have hs16:sb .i64 (k:Int) 16=((k-16:Nat):Int):=by rw[sb64 (by omega) (by omega)];omega
   have hs7:sb .i64 (k:Int) 7=((k-7:Nat):Int):=by rw[sb64 (by omega) (by omega)];omega
   have hu:=wl_u32 hb k
   have hx:=allU_get hu (k-15)
   have hy:=allU_get hu (k-2)
   obtain⟨r7,r18,r17,r19,_⟩:=rr_real hx
   obtain⟨_,_,q17,q19,_⟩:=rr_real hy
   rw[hs15,hs2,hs16,hs7]
   simp only[Int.toNat_natCast]
   rw[w32_at (by omega),w32_at (by omega),w32_at (by omega),w32_at (by omega)]
   refine cf (by simp;omega) (ct (by simp;omega) (ct (by simp;omega) (ct (by simp;omega) (bdS r7 (bdS r18 (ct (by simp;omega) (bdS q17 (bdS q19 (ct (by simp;omega) ?_)))))))))
   refine fin _ ?_
   rw[wv,if_neg h2]
   simp only[i_int]
   rw[shr_real hx 3 (by omega),shr_real hy 10 (by omega)]
   rw[ad32,ad32,ad32]
   unfold S0 S1
   omega
 ·refine cf (by simp;omega) ?_
  have:k=64:=by omega
  subst this
  rfl
theorem mix_real (h:List Int) (s:ByteArray) (hh:h.length=8) (hu:allU h) (hs:s.size=64):F89.s FUEL (w32 h) (w32 K0) s=some (w32 (mixV h fun j=>byteAt s j)):=by
 unfold F89.s
 refine ct (by simp[w32,hh]) (bdS (words_real s hs) ?_)
 unfold mixV
 generalize hw:wl (fun j=>byteAt s j) 64=W
 have hWl:W.length=64:=by rw[←hw];exact wl_len _ _
 refine goS_rule (fun t:F89.S3=>∃(j:Nat) (i6 i7 i8 i9 i10 i11 i12 i13:Int) (b14:Bool),t=⟨w32 W,(j:Int),w32 h,w32 K0,i6,i7,i8,i9,i10,i11,i12,i13,b14,(vl h W j).map (D.int .u32)⟩∧j≤64) (fun t=>64-t.i3.toNat) (fun o=>o=some (w32 (al h (vl h W 64) 8))) ?_ _ _ ⟨0,0,0,0,0,0,0,0,0,true,rfl,by omega⟩ (by simp[FUEL])
 rintro _ rec ⟨j,i6,i7,i8,i9,i10,i11,i12,i13,b14,rfl,hj⟩ hrec
 simp only[F89.st3]
 have hvl:=vl_len (w:=W) hh j
 by_cases h1:j<64
 ·have hadd:ad .i64 (j:Int) 1=((j+1:Nat):Int):=by rw[ad64 (by omega) (by omega)];rfl
  have hvu:=vl_u32 (w:=W) hu j
  have hst:vl h W (j+1)=rnd (K0.getD j 0) (W.getD j 0) (vl h W j):=rfl
  obtain⟨a,b,c,d,e,f,g,i,hv⟩:=list8 hvl
  have he:u32 e:=hvu e (by rw[hv];simp)
  have ha:u32 a:=hvu a (by rw[hv];simp)
  obtain⟨_,_,_,_,r6,r11,r25,_⟩:=rr_real he
  obtain⟨_,_,_,_,_,_,_,r2,r13,r22⟩:=rr_real ha
  have hK:j<K0.length:=by show j<64;omega
  rw[hadd]
  simp only[Int.toNat_natCast]
  rw[w32_at hK,w32_at (by omega)]
  rw[hv] at hst ⊢
  refine ct (by simp;omega) (ct (by simp;omega) (bdS r6 (bdS r11 (bdS r25 (ct (by simp;omega) (bdS r2 (bdS r13 (bdS r22 (ct rfl (ct rfl ?_))))))))))
  refine hrec _ ⟨j+1,i6,i7,i8,i9,i10,i11,i12,i13,b14,?_,by omega⟩ (by simp;omega)
  rw[hst]
  have hne:notI .u32 e=sb .u32 4294967295 e:=not32 he
  have e4:(ix (List.map (D.int IntKind.u32) [a,b,c,d,e,f,g,i]) 4).i=e:=rfl
  rw[e4,hne]
  rfl
 ·refine cf (by simp;omega) ?_
  have hj64:j=64:=by omega
  subst hj64
  generalize hV:vl h W 64=V at hvl
  refine goS_rule (fun t:F89.S13=>∃(m:Nat) (d24:D) (i25 i26 i27 i28 i29 i30 i31 i32:Int) (b33:Bool),t=⟨(m:Int),w32 (al h V m),d24,i25,i26,i27,i28,i29,i30,i31,i32,b33,V.map (D.int .u32)⟩∧m≤8) (fun t=>8-t.i22.toNat) (fun o=>o=some (w32 (al h V 8))) ?_ _ _ ⟨0,_,_,_,_,_,_,_,_,_,_,rfl,by omega⟩ (by simp[FUEL])
  rintro _ rec2 ⟨m,d24,i25,i26,i27,i28,i29,i30,i31,i32,b33,rfl,hm⟩ hrec2
  simp only[F89.st13]
  have hal:=al_len h V m
  by_cases h2:m<8
  ·have hadd:ad .i64 (m:Int) 1=((m+1:Nat):Int):=by rw[ad64 (by omega) (by omega)];rfl
   refine ct (by simp;omega) (ct (by simp;omega) (ct (by simp;omega) (ct (by simp;omega) ?_)))
   have hg:V[m]'(by omega)=V.getD m 0:=by rw[List.getD_eq_getElem?_getD,List.getElem?_eq_getElem (by omega)];rfl
   rw[hadd,w32_set,Int.toNat_natCast,w32_at (by omega),ix_map (show m<V.length by omega),hg]
   exact hrec2 _ ⟨m+1,d24,i25,i26,i27,i28,i29,i30,i31,i32,b33,rfl,by omega⟩ (by simp;omega)
  ·refine cf (by simp;omega) ?_
   have:m=8:=by omega
   subst this
   rfl
end Go.AM.SZ
namespace Go.AM.SZ
open Go Go.AM
theorem rem64 (n:Nat):remI (nI n) 64=((n%64:Nat):Int):=tmod_nat n 64
theorem wrap64 (n:Int):IntKind.wrap .u64 n=n%18446744073709551616:=by simp[IntKind.wrap,IntKind.signed,IntKind.bits]
theorem cv8 (n:Nat):cv .u8 (n:Int)=((n%256:Nat):Int):=by
 have:IntKind.wrap .u8 (n:Int)=(n:Int)%256:=by simp[IntKind.wrap,IntKind.signed,IntKind.bits]
 unfold cv;rw[this];omega
theorem shr64 (n k:Nat) (hk:k≤64):shrI .u64 (n:Int) k=((n / 2^k:Nat):Int):=by
 have hp:0<2^k:=Nat.two_pow_pos k
 unfold shrI
 rw[show min k (IntKind.bits .u64)=k from Nat.min_eq_left (by show k≤64;omega),Int.fdiv_eq_ediv_of_nonneg _ (by exact Int.le_of_lt (by exact_mod_cast hp))]
 simp
theorem pow8 (k:Nat):2^(8*k)=256^k:=by rw[Nat.pow_mul]
def padBase (b:ByteArray) (j:Nat):List D:=bytesOf b++[D.int .u8 128]++List.replicate j (D.int .u8 0)
theorem padBase_len (b:ByteArray) (j:Nat):(padBase b j).length=b.size+1+j:=by simp[padBase,bytesOf_len];omega
theorem padBase_step (b:ByteArray) (j:Nat):padBase b j++[D.int .u8 0]=padBase b (j+1):=by
 unfold padBase
 rw[List.append_assoc,←List.replicate_succ']
theorem pad_real (b:ByteArray) (hb:b.size≤1000000):F88.s FUEL b=some (dS (padV b)):=by
 unfold F88.s
 refine ct (by simp;omega) (ct (by simp;omega) ?_)
 refine goS_rule (fun t:F88.S2=>∃(j:Nat) (b4:Bool),t=⟨b,0,b.size+1+j,b4,padBase b j⟩∧j≤padZ b.size) (fun t=>b.size+1+padZ b.size-t.n3) (fun o=>o=some (dS (padV b))) ?_ _ _ ⟨0,true,?_,by omega⟩ (by simp[FUEL];unfold padZ;omega)
 ·rintro _ rec ⟨j,b4,rfl,hj⟩ hrec
  simp only[F88.st2]
  have hl:=padBase_len b j
  have hz:padZ b.size<64:=by unfold padZ;omega
  rw[rem64]
  by_cases h1:j<padZ b.size
  ·refine ct (by rw[neI_t];unfold padZ at h1;omega) (ct (by simp;omega) ?_)
   have e:ap ((((padBase b j).drop 0).take (b.size+1+j))) [D.int .u8 0]=padBase b (j+1):=by
    rw[List.drop_zero,List.take_of_length_le (by omega)];exact padBase_step b j
   rw[e]
   exact hrec _ ⟨j+1,_,rfl,by omega⟩ (by dsimp only;omega)
  ·have hjz:j=padZ b.size:=by omega
   refine cf (by rw[neI_f];unfold padZ at hjz;omega) ?_
   have hn:shlI .u64 (cv .u64 (nI b.size)) 3=((8*b.size:Nat):Int):=by
    unfold shlI cv
    rw[wrap64,wrap64,show min 3 (IntKind.bits .u64)=3 from rfl,nI_eq];omega
   rw[hn]
   generalize hN:8*b.size=n
   have hn64:n<18446744073709551616:=by omega
   refine goS_rule (fun t:F88.S6=>∃(k:Nat) (l:List D) (b10:Bool),t=⟨0,l.length,(n:Int),(k:Int)-1,b10,l⟩∧k≤8∧l++be k n=padL b∧l.length+k=(padL b).length) (fun t=>(t.i9+1).toNat) (fun o=>o=some (dS (padV b))) ?_ _ _ ⟨8,padBase b j,b4,by rw[hl];rfl,by omega,by rw[hjz,←hN];rfl,by rw[hl,padL_len];omega⟩ (by simp[FUEL])
   rintro _ rec2 ⟨k,l,b10,rfl,hk,hl2,hl3⟩ hrec2
   have hpl:=padL_len b
   simp only[F88.st6]
   have hdt:((l.drop 0).take l.length)=l:=by rw[List.drop_zero,List.take_length]
   by_cases h2:1≤k
   ·have hml:ml .i64 8 ((k:Int)-1)=((8*(k-1):Nat):Int):=by rw[ml64 (by omega) (by omega)];omega
    have hsb:sb .i64 ((k:Int)-1) 1=((k-1:Nat):Int)-1:=by rw[sb64 (by omega) (by omega)];omega
    refine ct (by simp;omega) ?_
    rw[hml,if_neg (by omega),bd_some,hdt,hsb,Int.toNat_natCast,i_int,shr64 _ _ (by omega),cv8,pow8]
    refine ct (by simp;omega) ?_
    refine hrec2 _ ⟨k-1,l++[D.int .u8 ((n / 256^(k-1)%256:Nat):Int)],(b10||true),?_,by omega,?_,by simp;omega⟩ ?_
    ·rw[List.length_append];rfl
    ·obtain⟨k',rfl⟩:∃k',k=k'+1:=⟨k-1,by omega⟩
     rw[←hl2]
     simp[be]
    ·dsimp only;omega
   ·refine cf (by simp;omega) ?_
    have:k=0:=by omega
    subst this
    rw[hdt]
    have:l=padL b:=by simpa[be] using hl2
    rw[this]
    rfl
 ·rw[F88.S2.mk.injEq]
  refine⟨rfl,rfl,by omega,rfl,?_⟩
  rw[List.drop_zero,List.take_of_length_le (by rw[bytesOf_len];exact Nat.le_refl _)]
  simp[padBase,ap]
theorem ob_real {h:List Int} (hu:allU h) (k:Nat) (hk:k<32) (hh:h.length=8) :
  (bd (if (sb .i64 24 (ml .i64 8 (remI (k:Int) 4)))<0 then none else some (.int .u32 (shrI .u32 ((w32 h).at (quoI .i64 (k:Int) 4).toNat).i (sb .i64 24 (ml .i64 8 (remI (k:Int) 4))).toNat))) fun r13=>some (D.int .u8 (cv .u8 r13.i)))=some (D.int .u8 (ob h k)):=by
 have hrem:remI (k:Int) 4=((k%4:Nat):Int):=tmod_nat k 4
 have hml:ml .i64 8 ((k%4:Nat):Int)=((8*(k%4):Nat):Int):=by rw[ml64 (by omega) (by omega)];omega
 have hsb:sb .i64 24 ((8*(k%4):Nat):Int)=((8*(3-k%4):Nat):Int):=by rw[sb64 (by omega) (by omega)];omega
 have hg:=allU_get hu (k / 4)
 rw[hrem,hml,hsb,quo4 k hk,if_neg (by omega),bd_some,Int.toNat_natCast,Int.toNat_natCast,w32_at (by omega),i_int,i_int,shr_real hg _ (by omega),cv8,pow8]
 rfl
theorem out_real {h:List Int} (hu:allU h) (hl8:h.length=8) (d9 d11:D) (z:D) (hz:z=sumD zeros) (K:F42.X8→Option D) (hK:∀i d9 d10 d11 d12,K (.e0 i d9 d10 d11 d12)=some d12) :
  goS (F42.st8 FUEL) FUEL ⟨0,d9,w32 h,d11,z⟩ K=some (sumD (ol h 32)):=by
 subst hz
 obtain⟨R,hR⟩:∃R,R=sumD (ol h 32):=⟨_,rfl⟩
 rw[←hR]
 refine goS_rule (fun s:F42.S8=>∃k:Nat,s=⟨(k:Int),d9,w32 h,d11,sumD (ol h k)⟩∧k≤32) (fun s=>32-s.i8.toNat) (fun o=>o=some R) ?_ _ _ ⟨0,rfl,by omega⟩ (by simp[FUEL])
 rintro _ rec2 ⟨k,rfl,hk⟩ hrec2
 simp only[F42.st8]
 by_cases hk2:k<32
 ·have hadd:ad .i64 (k:Int) 1=((k+1:Nat):Int):=by rw[ad64 (by omega) (by omega)];rfl
  have hob:=ob_real hu k hk2 hl8
  refine ct (by simp;omega) (ct (by rw[quo4 k hk2];simp;omega) ?_)
  generalize (if (sb .i64 24 (ml .i64 8 (remI (k:Int) 4)))<0 then none else some (D.int .u32 (shrI .u32 ((w32 h).at (quoI .i64 (k:Int) 4).toNat).i (sb .i64 24 (ml .i64 8 (remI (k:Int) 4))).toNat)):Option D)=x at hob ⊢
  cases x with
  | none=>simp[bd] at hob
  | some y=>
   rw[bd_some] at hob
   rw[bd_some,Option.some.inj hob,hadd,Int.toNat_natCast]
   refine ct (by simp;omega) ?_
   have e:D.agg ((sumD (ol h k)).parts.set k (D.int .u8 (ob h k)))=sumD (ol h (k+1)):=by
    rw[ol]
    unfold sumD
    rw[List.map_set]
    rfl
   rw[e]
   exact hrec2 _ ⟨k+1,rfl,by omega⟩ (by simp;omega)
 ·refine cf (by simp;omega) ?_
  have:k=32:=by omega
  subst this
  rw[hK,hR]
theorem real_of (b:ByteArray) (hb:b.size≤1000000):F42.s FUEL b=some (sumD (shaV b)):=by
 unfold F42.s
 rw[const_spec,bd_some,pad_real b hb,bd_some]
 have h64:=padV_64 b
 have hsz:=padV_size b
 have hz:padZ b.size<64:=by unfold padZ;omega
 unfold shaV
 generalize padV b=P at h64 hsz
 generalize hM:P.size / 64=M
 have hPM:P.size=64*M:=by omega
 obtain⟨R,hR⟩:∃R,R=sumD (ol (hv P M) 32):=⟨_,rfl⟩
 rw[←hR]
 have e0:P.extract (64*0) P.size=P:=by simp
 refine goS_rule (fun s:F42.S3=>∃m:Nat,s=⟨dS (P.extract (64*m) P.size),da (rp 32 (D.int .u8 0)),w32 (hv P m),w32 K0⟩∧m≤M) (fun s=>s.d3.s.size / 64) (fun o=>o=some R) ?_ _ _ ⟨0,by rw[e0];rfl,by omega⟩ (by simp[FUEL];omega)
 rintro _ rec ⟨m,rfl,hm⟩ hrec
 simp only[F42.st3]
 have hds:(dS (P.extract (64*m) P.size)).s=P.extract (64*m) P.size:=rfl
 rw[hds]
 have hsz2:(P.extract (64*m) P.size).size=P.size-64*m:=by simp
 by_cases h0:m<M
 ·refine ct (by rw[gtI_t,nI_eq,hsz2];omega) (ct (by rw[hsz2];simp;omega) ?_)
  have hs:((P.extract (64*m) P.size).extract 0 64).size=64:=by simp;omega
  refine bdS (mix_real (hv P m) _ (hv_len P m) (hv_u32 P m) hs) (ct (by rw[hsz2];simp;omega) ?_)
  have e1:mixV (hv P m) (fun j=>byteAt ((P.extract (64*m) P.size).extract 0 64) j)=hv P (m+1):=by
   rw[hv]
   unfold mixV
   rw[wl_congr (c:=fun j=>byteAt P (64*m+j)) (fun j hj=>?_) 64 (by omega)]
   unfold byteAt
   simp only[List.getD_eq_getElem?_getD,ByteArray.data_extract,Array.toList_extract,List.extract_eq_drop_take]
   rw[List.getElem?_take,if_pos (by omega),List.drop_zero,List.getElem?_take,if_pos (by omega),List.getElem?_drop]
  have e2:(P.extract (64*m) P.size).extract 64 (P.extract (64*m) P.size).size=P.extract (64*(m+1)) P.size:=by
   rw[hsz2]
   apply ByteArray.ext
   apply Array.toList_inj.1
   simp only[ByteArray.data_extract,Array.toList_extract,List.extract_eq_drop_take]
   rw[List.drop_take,List.drop_drop,List.take_take,Nat.min_self,Nat.sub_sub,show 64*(m+1)=64*m+64 by omega]
  rw[e1,e2]
  refine hrec ⟨dS (P.extract (64*(m+1)) P.size),da (rp 32 (D.int .u8 0)),w32 (hv P (m+1)),w32 K0⟩ ⟨m+1,rfl,by omega⟩ ?_
  dsimp only
  rw[show (dS (P.extract (64*(m+1)) P.size)).s=P.extract (64*(m+1)) P.size from rfl,hds,hsz2]
  simp;omega
 ·have hmM:m=M:=by omega
  subst hmM
  refine cf (by rw[gtI_f,nI_eq,hsz2];omega) ?_
  rw[hR]
  exact out_real (hv_u32 P m) (hv_len P m) _ _ _ (by kernel_rfl) _ (fun _ _ _ _ _=>rfl)
end Go.AM.SZ
namespace Go.AM.SZ
open Go Go.AM
theorem roots_spec:F96.s FUEL=some (w32 H0):=rfl
theorem cubes_spec:F97.s FUEL=some (w32 K0):=rfl
theorem pad_ref (b:ByteArray) (hb:b.size≤1000000):F98.s FUEL b=some (dS (padV b)):=by
 unfold F98.s
 refine ct (by simp;omega) (ct (by simp;omega) ?_)
 refine goS_rule (fun t:F98.S3=>∃(j:Nat) (b6:Bool),t=⟨b,0,b.size+1+j,true,[D.int .u8 128],b6,padBase b j⟩∧j≤padZ b.size) (fun t=>b.size+1+padZ b.size-t.n3) (fun o=>o=some (dS (padV b))) ?_ _ _ ⟨0,true,?_,by omega⟩ (by simp[FUEL];unfold padZ;omega)
 ·rintro _ rec ⟨j,b6,rfl,hj⟩ hrec
  simp only[F98.st3]
  have hl:=padBase_len b j
  have hz:padZ b.size<64:=by unfold padZ;omega
  rw[rem64]
  by_cases h1:j<padZ b.size
  ·refine ct (by rw[neI_t];unfold padZ at h1;omega) (ct (by simp;omega) ?_)
   have e:ap ((((padBase b j).drop 0).take (b.size+1+j))) [D.int .u8 0]=padBase b (j+1):=by
    rw[List.drop_zero,List.take_of_length_le (by omega)];exact padBase_step b j
   rw[e]
   exact hrec _ ⟨j+1,(b6||true),rfl,by omega⟩ (by dsimp only;omega)
  ·have hjz:j=padZ b.size:=by omega
   refine cf (by rw[neI_f];unfold padZ at hjz;omega) ?_
   have hn:ml .u64 (cv .u64 (nI b.size)) 8=((8*b.size:Nat):Int):=by
    unfold ml cv
    rw[wrap64,wrap64,nI_eq];omega
   rw[hn]
   generalize hN:8*b.size=n
   have hn64:n<18446744073709551616:=by omega
   refine goS_rule (fun t:F98.S8=>∃(k:Nat) (b18:Bool),t=⟨0,b.size+1+j,((n / 256^k:Nat):Int),0,k,(k:Int),true,[D.int .u8 128],b6,padBase b j,b18,be k n⟩∧k≤8) (fun t=>8-t.i13.toNat) (fun o=>o=some (dS (padV b))) ?_ _ _ ⟨0,false,by simp[be],by omega⟩ (by simp[FUEL])
   rintro _ rec2 ⟨k,b18,rfl,hk⟩ hrec2
   simp only[F98.st8]
   have hbl:=be_len n k
   have hdt:(((be k n).drop 0).take k)=be k n:=by rw[List.drop_zero,List.take_of_length_le (by omega)]
   rw[hdt]
   by_cases h2:k<8
   ·have hadd:ad .i64 (k:Int) 1=((k+1:Nat):Int):=by rw[ad64 (by omega) (by omega)];rfl
    have hq:quoI .u64 ((n / 256^k:Nat):Int) 256=((n / 256^(k+1):Nat):Int):=by
     unfold quoI
     have e1:((n / 256^k:Nat):Int).tdiv 256=((n / 256^k / 256:Nat):Int):=rfl
     have e2:n / 256^k / 256=n / 256^(k+1):=by rw[Nat.div_div_eq_div_mul,←Nat.pow_succ]
     have e3:n / 256^(k+1)≤n:=Nat.div_le_self _ _
     rw[e1,e2,wrap64]
     generalize n / 256^(k+1)=q at e3
     omega
    have hr:remI ((n / 256^k:Nat):Int) 256=((n / 256^k%256:Nat):Int):=rfl
    refine ct (by simp;omega) ?_
    rw[hadd,hq,hr,cv8,hbl,Nat.mod_mod]
    refine ct (by simp;omega) ?_
    refine hrec2 _ ⟨k+1,true,?_,by omega⟩ (by simp;omega)
    rw[show 1+k=k+1 by omega]
    rfl
   ·refine cf (by simp;omega) ?_
    have:k=8:=by omega
    subst this
    rw[hbl]
    refine ct (by simp;omega) ?_
    have e:ap (((padBase b j).drop 0).take (b.size+1+j)) (be 8 n)=padL b:=by
     rw[List.drop_zero,List.take_of_length_le (by omega),hjz,←hN];rfl
    have e2:(((padL b).drop 0).take (b.size+1+j+8))=padL b:=by
     rw[List.drop_zero,List.take_of_length_le (by rw[padL_len];omega)]
    rw[e,e2]
    rfl
 ·rw[F98.S3.mk.injEq]
  refine⟨rfl,rfl,by omega,rfl,rfl,rfl,?_⟩
  rw[List.drop_zero,List.take_of_length_le (by rw[bytesOf_len];exact Nat.le_refl _)]
  simp[padBase,ap]
def partW (B:Nat→Int) (k:Nat) (x:Int):Nat→Int
 | 0=>0
 | 1=>B (4*k)
 | 2=>B (4*k)*256+B (4*k+1)
 | 3=>B (4*k)*65536+B (4*k+1)*256+B (4*k+2)
 | _=>x
theorem partW_step {B:Nat→Int} (hb:bytesB B) {k i:Nat} (hi:i<4) (x:Int) (hx:x=B (4*k)*16777216+B (4*k+1)*65536+B (4*k+2)*256+B (4*k+3)) :
  ad .u32 (ml .u32 (partW B k x i) 256) (cv .u32 (B (4*k+i)))=partW B k x (i+1):=by
 have g0:=hb (4*k)
 have g1:=hb (4*k+1)
 have g2:=hb (4*k+2)
 have g3:=hb (4*k+3)
 rw[ad32,ml32,cv32]
 rcases(by omega:i=0∨i=1∨i=2∨i=3) with rfl | rfl | rfl | rfl
 ·rw[show partW B k x 0=0 from rfl,show partW B k x (0+1)=B (4*k) from rfl,Nat.add_zero];omega
 ·rw[show partW B k x 1=B (4*k) from rfl,show partW B k x (1+1)=B (4*k)*256+B (4*k+1) from rfl];omega
 ·rw[show partW B k x 2=B (4*k)*256+B (4*k+1) from rfl,show partW B k x (2+1)=B (4*k)*65536+B (4*k+1)*256+B (4*k+2) from rfl];omega
 ·rw[show partW B k x 3=B (4*k)*65536+B (4*k+1)*256+B (4*k+2) from rfl,show partW B k x (3+1)=x from rfl,hx];omega
theorem words_ref (P:ByteArray) (m:Nat) (d6 d7 d8:D) (hm:64*m+64≤P.size) (hsz:P.size≤2000000) (K:F44.X9→Option D) (R:Option D) (hK:K (.e0 (dS P) ((64*m:Nat):Int) 64 d6 d7 d8 (w32 (wl (fun j=>byteAt P (64*m+j)) 64)))=R) :
  goS (F44.st9 FUEL) FUEL ⟨dS P,((64*m:Nat):Int),0,d6,d7,d8,w32 (List.replicate 64 0)⟩ K=R:=by
 have hb:bytesB fun j=>byteAt P (64*m+j):=byte_b P _
 generalize hB:(fun j=>byteAt P (64*m+j))=B at hb hK
 have hBj:∀j,byteAt P (64*m+j)=B j:=fun j=>by rw[←hB]
 refine goS_rule (fun t:F44.S9=>∃k:Nat,t=⟨dS P,((64*m:Nat):Int),(k:Int),d6,d7,d8,w32 (wl B k)⟩∧k≤64) (fun t=>64-t.i11.toNat) (fun o=>o=R) ?_ _ _ ⟨0,rfl,by omega⟩ (by simp[FUEL])
 rintro _ rec ⟨k,rfl,hk⟩ hrec
 simp only[F44.st9]
 have hwl:=wl_len B k
 by_cases h1:k<64
 ·have hadd:ad .i64 (k:Int) 1=((k+1:Nat):Int):=by rw[ad64 (by omega) (by omega)];rfl
  refine ct (by simp;omega) ?_
  by_cases h2:k<16
  ·refine ct (by simp;omega) ?_
   have hwx:wv B k (wl B k)=B (4*k)*16777216+B (4*k+1)*65536+B (4*k+2)*256+B (4*k+3):=by rw[wv,if_pos h2]
   generalize hX:wv B k (wl B k)=X at hwx
   refine goS_rule (fun t:F44.S13=>∃i:Nat,t=⟨dS P,((64*m:Nat):Int),(k:Int),(i:Int),d6,d7,d8,w32 ((wl B k).set k (partW B k X i))⟩∧i≤4) (fun t=>4-t.i19.toNat) (fun o=>o=R) ?_ _ _ ⟨0,?_,by omega⟩ (by simp[FUEL])
   ·rintro _ rec2 ⟨i,rfl,hi⟩ hrec2
    simp only[F44.st13]
    by_cases h3:i<4
    ·have hm4:ml .i64 4 (k:Int)=((4*k:Nat):Int):=by rw[ml64 (by omega) (by omega)];omega
     have ha1:ad .i64 ((64*m:Nat):Int) ((4*k:Nat):Int)=((64*m+4*k:Nat):Int):=by rw[ad64 (by omega) (by omega)];omega
     have ha2:ad .i64 ((64*m+4*k:Nat):Int) (i:Int)=((64*m+(4*k+i):Nat):Int):=by rw[ad64 (by omega) (by omega)];omega
     have hadd2:ad .i64 (i:Int) 1=((i+1:Nat):Int):=by rw[ad64 (by omega) (by omega)];rfl
     have hP:(dS P).s=P:=rfl
     rw[hm4,ha1,ha2,hadd2,hP]
     simp only[Int.toNat_natCast]
     rw[w32_at (by simp[hwl];omega),w32_set,List.set_set,hBj,i_int]
     have hg:((wl B k).set k (partW B k X i)).getD k 0=partW B k X i:=by
      rw[List.getD_eq_getElem?_getD,List.getElem?_set_self (by omega)];rfl
     have hst:=partW_step hb h3 X hwx
     rw[hg,hst]
     exact ct (by simp;omega) (ct (by simp;omega) (ct (by rw[inb_t];omega) (ct (by simp;omega) (hrec2 _ ⟨i+1,rfl,by omega⟩ (by simp;omega)))))
    ·refine cf (by simp;omega) ?_
     have:i=4:=by omega
     subst this
     rw[show partW B k X 4=X from rfl,hadd,←hX]
     exact hrec _ ⟨k+1,rfl,by omega⟩ (by simp;omega)
   ·have hz:=wl_zero B k k (Nat.le_refl _) h1
    have e:(wl B k).set k (partW B k X 0)=wl B k:=by
     rw[show partW B k X 0=0 from rfl]
     rw[List.getD_eq_getElem?_getD,List.getElem?_eq_getElem (by omega)] at hz
     have hz':(wl B k)[k]'(by omega)=0:=hz
     conv=>lhs;rw[←hz']
     rw[List.set_getElem_self]
    rw[e]
    rfl
  ·have hs15:sb .i64 (k:Int) 15=((k-15:Nat):Int):=by rw[sb64 (by omega) (by omega)];omega
   have hs2:sb .i64 (k:Int) 2=((k-2:Nat):Int):=by rw[sb64 (by omega) (by omega)];omega
   have hs16:sb .i64 (k:Int) 16=((k-16:Nat):Int):=by rw[sb64 (by omega) (by omega)];omega
   have hs7:sb .i64 (k:Int) 7=((k-7:Nat):Int):=by rw[sb64 (by omega) (by omega)];omega
   have hu:=wl_u32 hb k
   have hx:=allU_get hu (k-15)
   have hy:=allU_get hu (k-2)
   obtain⟨r7,r18,r17,r19,_⟩:=rr_ref hx
   obtain⟨_,_,q17,q19,_⟩:=rr_ref hy
   have s10:=shift_ref hy 10 (by omega)
   have s3:=shift_ref hx 3 (by omega)
   rw[hs15,hs2,hs16,hs7]
   simp only[Int.toNat_natCast]
   rw[w32_at (by omega),w32_at (by omega),w32_at (by omega),w32_at (by omega)]
   refine cf (by simp;omega) (ct (by simp;omega) (ct (by simp;omega) (bdS q17 (bdS q19 (bdS s10 (ct (by simp;omega) (bdS r7 (bdS r18 (bdS s3 (ct (by simp;omega) (ct (by simp;omega) ?_)))))))))))
   rw[hadd,w32_set]
   have e:(wl B k).set k (ad .u32 (ad .u32 (ad .u32 (xorI .u32 (xorI .u32 (rI ((wl B k).getD (k-2) 0) 17) (rI ((wl B k).getD (k-2) 0) 19)) ((((wl B k).getD (k-2) 0).toNat / 2^10:Nat):Int)) ((wl B k).getD (k-7) 0)) (xorI .u32 (xorI .u32 (rI ((wl B k).getD (k-15) 0) 7) (rI ((wl B k).getD (k-15) 0) 18)) ((((wl B k).getD (k-15) 0).toNat / 2^3:Nat):Int))) ((wl B k).getD (k-16) 0))=wl B (k+1):=by
    rw[wl]
    congr 1
    rw[wv,if_neg h2,ad32,ad32,ad32]
    unfold S0 S1
    omega
   simp only[i_int]
   rw[e]
   exact hrec _ ⟨k+1,rfl,by omega⟩ (by simp;omega)
 ·refine cf (by simp;omega) ?_
  have:k=64:=by omega
  subst this
  exact hK
theorem round_ref (P:ByteArray) (i31:Int) (h W:List Int) (hh:h.length=8) (hu:allU h) (hWl:W.length=64) (d33 d34:D) (K:F44.X21→Option D) (R:Option D) (hK:K (.e0 (dS P) i31 64 d33 d34 (w32 K0) (w32 W) (w32 (vl h W 64)))=R) :
  goS (F44.st21 FUEL) FUEL ⟨dS P,i31,0,d33,d34,w32 K0,w32 W,w32 h⟩ K=R:=by
 refine goS_rule (fun t:F44.S21=>∃j:Nat,t=⟨dS P,i31,(j:Int),d33,d34,w32 K0,w32 W,w32 (vl h W j)⟩∧j≤64) (fun t=>64-t.i32.toNat) (fun o=>o=R) ?_ _ _ ⟨0,rfl,by omega⟩ (by simp[FUEL])
 rintro _ rec ⟨j,rfl,hj⟩ hrec
 simp only[F44.st21]
 have hvl:=vl_len (w:=W) hh j
 by_cases h1:j<64
 ·have hadd:ad .i64 (j:Int) 1=((j+1:Nat):Int):=by rw[ad64 (by omega) (by omega)];rfl
  have hvu:=vl_u32 (w:=W) hu j
  have hst:vl h W (j+1)=rnd (K0.getD j 0) (W.getD j 0) (vl h W j):=rfl
  obtain⟨a,b,c,d,e,f,g,i,hv⟩:=list8 hvl
  have he:u32 e:=hvu e (by rw[hv];simp)
  have ha:u32 a:=hvu a (by rw[hv];simp)
  obtain⟨_,_,_,_,r6,r11,r25,_⟩:=rr_ref he
  obtain⟨_,_,_,_,_,_,_,r2,r13,r22⟩:=rr_ref ha
  have hK:j<K0.length:=by show j<64;omega
  rw[hadd]
  simp only[Int.toNat_natCast]
  rw[w32_at hK,w32_at (l:=W) (by omega)]
  rw[hv] at hst ⊢
  refine ct (by simp;omega) (bdS r6 (bdS r11 (bdS r25 (ct (by simp;omega) (ct (by simp;omega) (bdS r2 (bdS r13 (bdS r22 ?_))))))))
  refine hrec _ ⟨j+1,?_,by omega⟩ (by simp;omega)
  rw[hst]
  rfl
 ·refine cf (by simp;omega) ?_
  have:j=64:=by omega
  subst this
  exact hK
theorem add_ref (P:ByteArray) (i45:Int) (h V:List Int) (hh:h.length=8) (hV:V.length=8) (d47 d49 d50:D) (K:F44.X30→Option D) (R:Option D) (hK:K (.e0 (dS P) i45 8 d47 (w32 (al h V 8)) d49 d50 (w32 V))=R) :
  goS (F44.st30 FUEL) FUEL ⟨dS P,i45,0,d47,w32 h,d49,d50,w32 V⟩ K=R:=by
 refine goS_rule (fun t:F44.S30=>∃j:Nat,t=⟨dS P,i45,(j:Int),d47,w32 (al h V j),d49,d50,w32 V⟩∧j≤8) (fun t=>8-t.i46.toNat) (fun o=>o=R) ?_ _ _ ⟨0,rfl,by omega⟩ (by simp[FUEL])
 rintro _ rec ⟨m,rfl,hm⟩ hrec2
 simp only[F44.st30]
 have hal:=al_len h V m
 by_cases h2:m<8
 ·have hadd:ad .i64 (m:Int) 1=((m+1:Nat):Int):=by rw[ad64 (by omega) (by omega)];rfl
  refine ct (by simp;omega) (ct (by simp;omega) (ct (by simp;omega) (ct (by simp;omega) ?_)))
  rw[hadd,w32_set,Int.toNat_natCast,w32_at (by omega),w32_at (by omega)]
  exact hrec2 _ ⟨m+1,rfl,by omega⟩ (by simp;omega)
 ·refine cf (by simp;omega) ?_
  have:m=8:=by omega
  subst this
  exact hK
theorem shift8 (x:Nat) (n:Nat):quoI .u32 ((x / 256^n:Nat):Int) 256=cv .u32 ((x / 256^(n+1):Nat):Int):=by
 unfold quoI cv
 have e1:((x / 256^n:Nat):Int).tdiv 256=((x / 256^n / 256:Nat):Int):=rfl
 rw[e1,Nat.div_div_eq_div_mul,←Nat.pow_succ]
theorem out_ref {h:List Int} (hu:allU h) (hl8:h.length=8) (d53 d55:D) (z:D) (hz:z=sumD zeros) (K:F44.X35→Option D) (hK:∀i d53 d54 d55 d56,K (.e0 i d53 d54 d55 d56)=some d56) :
  goS (F44.st35 FUEL) FUEL ⟨0,d53,w32 h,d55,z⟩ K=some (sumD (ol h 32)):=by
 subst hz
 obtain⟨R,hR⟩:∃R,R=sumD (ol h 32):=⟨_,rfl⟩
 rw[←hR]
 refine goS_rule (fun s:F44.S35=>∃k:Nat,s=⟨(k:Int),d53,w32 h,d55,sumD (ol h k)⟩∧k≤32) (fun s=>32-s.i52.toNat) (fun o=>o=some R) ?_ _ _ ⟨0,rfl,by omega⟩ (by simp[FUEL])
 rintro _ rec2 ⟨k,rfl,hk⟩ hrec2
 simp only[F44.st35]
 by_cases hk2:k<32
 ·have hadd:ad .i64 (k:Int) 1=((k+1:Nat):Int):=by rw[ad64 (by omega) (by omega)];rfl
  have hrem:remI (k:Int) 4=((k%4:Nat):Int):=tmod_nat k 4
  have hg:=allU_get hu (k / 4)
  refine ct (by simp;omega) (ct (by rw[quo4 k hk2];simp;omega) ?_)
  rw[quo4 k hk2,hrem,Int.toNat_natCast,w32_at (by omega)]
  obtain⟨x,hx⟩:∃x:Nat,(h.getD (k / 4) 0)=x:=⟨(h.getD (k / 4) 0).toNat,by unfold u32 at hg;omega⟩
  have hxl:x<4294967296:=by unfold u32 at hg;omega
  have hobx:ob h k=((x / 256^(3-k%4)%256:Nat):Int):=by unfold ob;rw[hx];rfl
  rw[hx]
  refine goS_rule (fun s:F44.S39=>∃n:Nat,s=⟨(k:Int),D.int .u32 ((x / 256^n:Nat):Int),((k%4+n:Nat):Int),d53,w32 h,d55,sumD (ol h k)⟩∧k%4+n≤3) (fun s=>3-s.i59.toNat) (fun o=>o=some R) ?_ _ _ ⟨0,by simp,by omega⟩ (by simp[FUEL];omega)
  rintro _ rec3 ⟨n,rfl,hn⟩ hrec3
  simp only[F44.st39]
  by_cases h3:k%4+n<3
  ·have hadd3:ad .i64 ((k%4+n:Nat):Int) 1=((k%4+(n+1):Nat):Int):=by rw[ad64 (by omega) (by omega)];omega
   refine ct (by simp;omega) ?_
   rw[i_int,shift8,hadd3,cv32]
   have:((x / 256^(n+1):Nat):Int)%4294967296=((x / 256^(n+1):Nat):Int):=by
    have:=Nat.div_le_self x (256^(n+1))
    generalize x / 256^(n+1)=q at this
    omega
   rw[this]
   exact hrec3 _ ⟨n+1,rfl,by omega⟩ (by simp;omega)
  ·refine cf (by simp;omega) ?_
   have hn3:n=3-k%4:=by omega
   have hr:remI ((x / 256^n:Nat):Int) 256=((x / 256^n%256:Nat):Int):=rfl
   rw[i_int,hr,cv8,Nat.mod_mod,hn3,←hobx,hadd,Int.toNat_natCast]
   refine ct (by simp;omega) ?_
   have e:D.agg ((sumD (ol h k)).parts.set k (D.int .u8 (ob h k)))=sumD (ol h (k+1)):=by
    rw[ol]
    unfold sumD
    rw[List.map_set]
    rfl
   rw[e]
   exact hrec2 _ ⟨k+1,rfl,by omega⟩ (by simp;omega)
 ·refine cf (by simp;omega) ?_
  have:k=32:=by omega
  subst this
  rw[hK,hR]
theorem ref_of (b:ByteArray) (hb:b.size≤1000000):F44.s FUEL b=some (sumD (shaV b)):=by
 unfold F44.s
 rw[roots_spec,bd_some,cubes_spec,bd_some,pad_ref b hb,bd_some]
 have h64:=padV_64 b
 have hsz:=padV_size b
 have hz:padZ b.size<64:=by unfold padZ;omega
 unfold shaV
 generalize padV b=P at h64 hsz
 generalize hM:P.size / 64=M
 have hPM:P.size=64*M:=by omega
 obtain⟨R,hR⟩:∃R,R=sumD (ol (hv P M) 32):=⟨_,rfl⟩
 rw[←hR]
 refine goS_rule (fun s:F44.S5=>∃m:Nat,s=⟨dS P,((64*m:Nat):Int),da (rp 32 (D.int .u8 0)),w32 (hv P m),w32 K0⟩∧m≤M) (fun s=>M-s.i5.toNat / 64) (fun o=>o=some R) ?_ _ _ ⟨0,rfl,by omega⟩ (by simp[FUEL];omega)
 rintro _ rec ⟨m,rfl,hm⟩ hrec
 simp only[F44.st5]
 have hP:(dS P).s=P:=rfl
 rw[hP]
 by_cases h0:m<M
 ·refine ct (by simp;omega) ?_
  have hw0:da (rp 64 (D.int .u32 0))=w32 (List.replicate 64 0):=by kernel_rfl
  rw[hw0]
  refine words_ref P m _ _ _ (by omega) (by omega) _ _ ?_
  dsimp only
  refine round_ref P _ (hv P m) _ (hv_len P m) (hv_u32 P m) (wl_len _ _) _ _ _ _ ?_
  dsimp only
  refine add_ref P _ (hv P m) _ (hv_len P m) (vl_len (hv_len P m) 64) _ _ _ _ _ ?_
  dsimp only
  have hadd:ad .i64 ((64*m:Nat):Int) 64=((64*(m+1):Nat):Int):=by rw[ad64 (by omega) (by omega)];omega
  rw[hadd]
  exact hrec ⟨dS P,((64*(m+1):Nat):Int),da (rp 32 (D.int .u8 0)),w32 (hv P (m+1)),w32 K0⟩ ⟨m+1,rfl,by omega⟩ (by simp;omega)
 ·have hmM:m=M:=by omega
  subst hmM
  refine cf (by simp;omega) ?_
  rw[hR]
  exact out_ref (hv_u32 P m) (hv_len P m) _ _ _ (by kernel_rfl) _ (fun _ _ _ _ _=>rfl)
theorem sha_ref (b:ByteArray) (hb:b.size≤1000000):F44.s FUEL b=some (sumD (shaL b)):=by
 rw[ref_of b hb,←real_of b hb,sha_spec b hb]
end Go.AM.SZ
namespace Go.AM.SZ
open Go Go.AM
def SimL (l l':List Fl):Prop:=l'.map (fun f=>nnd f true)=l.map (fun f=>nnd f true)
theorem SimL.len {l l':List Fl} (h:SimL l l'):l'.length=l.length:=by
 have:=congrArg List.length h
 simpa using this
theorem nnd_eq {f g:Fl} (h:nnd g true=nnd f true):g=nnd f g.nn:=by
 cases f;cases g
 simp only[nnd,Fl.mk.injEq] at h ⊢
 exact⟨h.1,h.2.1,h.2.2.1,h.2.2.2.1,h.2.2.2.2.1,trivial,h.2.2.2.2.2.2⟩
theorem SimL.get {l l':List Fl} (h:SimL l l') {i:Nat} (hi:i<l.length) (hi':i<l'.length):l'[i]=nnd l[i] l'[i].nn:=by
 refine nnd_eq ?_
 have h1:(l'.map (fun f=>nnd f true))[i]? = (l.map (fun f=>nnd f true))[i]?:=by rw[h]
 rw[List.getElem?_map,List.getElem?_map,List.getElem?_eq_getElem hi,List.getElem?_eq_getElem hi'] at h1
 exact Option.some.inj h1
theorem SimL.refl (l:List Fl):SimL l l:=rfl
theorem findI_map {α β:Type} {g:α→β} {p:β→Bool} (l:List α):findI p (l.map g)=findI (fun x=>p (g x)) l:=by
 unfold findI
 rw[List.findIdx?_map]
 rfl
theorem SimL.find {l l':List Fl} (h:SimL l l') (n:ByteArray):findI (fun f:Fl=>decide (f.name=n)) l'=findI (fun f:Fl=>decide (f.name=n)) l:=by
 have h1:findI (fun f:Fl=>decide (f.name=n)) (l'.map (fun f=>nnd f true))=findI (fun f:Fl=>decide (f.name=n)) (l.map (fun f=>nnd f true)):=by rw[h]
 rw[findI_map,findI_map] at h1
 exact h1
theorem SimL.names {l l':List Fl} (h:SimL l l'):l'.map (·.name)=l.map (·.name):=by
 have h1:(l'.map (fun f=>nnd f true)).map (·.name)=(l.map (fun f=>nnd f true)).map (·.name):=by rw[h]
 rw[List.map_map,List.map_map] at h1
 exact h1
structure SimA (a a':An):Prop where
 err:a'.err=a.err
 n:a'.n=a.n
 text:a'.text=a.text
 file:nnd a'.file true=nnd a.file true
 names:a'.names=a.names
theorem SimA.refl (a:An):SimA a a:=⟨rfl,rfl,rfl,rfl,rfl⟩
end Go.AM.SZ
namespace Go.AM.SZ
open Go Go.AM
end Go.AM.SZ
namespace Go.AM.SZ
open Go Go.AM
end Go.AM.SZ
namespace Go.AM.SZ
open Go Go.AM
theorem run_spec (s:St) (nn:Bool) (l:List Mo) (hs:StOk s) (hl:∀o∈l,MoOk o) (hlen:l.length≤1000):F8.s FUEL s.enc (dl nn (l.map Mo.enc))=some (runM shaL s l).enc:=by
 unfold F8.s
 refine goS_rule (fun t:F8.S4=>∃(k:Nat) (r:Run),t=⟨0,k,0,r.evs.length,dl nn (l.map Mo.enc),nI l.length,(k:Int),r.st.enc,false,[],0,0,r.nnA,r.ans.map An.enc,r.nnE,r.evs.map Ev.enc⟩∧k≤l.length∧StOk r.st∧r.ans.length=k∧r.evs.length≤12*k∧runM shaL s l=runFrom shaL (l.drop k) r) (fun t=>l.length-t.i7.toNat) (fun o=>o=some (runM shaL s l).enc) ?_ _ _ ⟨0,run0 s,by simp[run0],by omega,hs,rfl,by simp[run0],by simp[runM]⟩ (by simp[FUEL];omega)
 rintro _ rec ⟨k,r,rfl,hk,hr,hra,hre,hrun⟩ hrec
 simp only[F8.st4]
 by_cases h1:k<l.length
 ·have hadd:ad .i64 (k:Int) 1=((k+1:Nat):Int):=by rw[ad64 (by omega) (by omega)];rfl
  have ho:=hl _ (List.getElem_mem h1)
  have hev:=do_evs_len (sum:=shaL) (o:=l[k]) hr
  refine ct (by simp;omega) (ct (by simp;omega) ?_)
  simp only[elems_slice,Int.toNat_natCast,ix_map h1]
  refine bdS (do_specM r.st l[k] hr ho) ?_
  rw[List.drop_eq_getElem_cons h1,runFrom] at hrun
  refine ct (by simp;omega) (ct (by show mx (r.evs.length+((doM shaL r.st l[k]).evs.map Ev.enc).length)=true;simp;omega) ?_)
  rw[hadd]
  refine hrec _ ⟨k+1,_,?_,by omega,do_ok hr ho,by simp[hra],by simp;omega,hrun⟩ ?_
  ·rw[F8.S4.mk.injEq]
   refine⟨rfl,rfl,rfl,?_,rfl,rfl,rfl,rfl,rfl,rfl,rfl,rfl,?_,?_,?_,?_⟩
   ·show r.evs.length+((doM shaL r.st l[k]).evs.map Ev.enc).length=(r.evs++(doM shaL r.st l[k]).evs).length
    simp
   ·simp
   ·show ap (((r.ans.map An.enc).drop 0).take k) [(doM shaL r.st l[k]).an.enc]=(r.ans++[(doM shaL r.st l[k]).an]).map An.enc
    rw[List.drop_zero,List.take_of_length_le (by simp[hra]),ap,List.map_append]
    rfl
   ·show (r.nnE||!((doM shaL r.st l[k]).evs.map Ev.enc).isEmpty)=(r.nnE||!(doM shaL r.st l[k]).evs.isEmpty)
    simp
   ·show ap (((r.evs.map Ev.enc).drop 0).take r.evs.length) ((doM shaL r.st l[k]).evs.map Ev.enc)=(r.evs++(doM shaL r.st l[k]).evs).map Ev.enc
    rw[List.drop_zero,List.take_of_length_le (by simp),ap,List.map_append]
  ·dsimp only;omega
 ·refine cf (by simp;omega) ?_
  rw[List.drop_of_length_le (by omega),runFrom] at hrun
  rw[hrun]
  show some (D.tup [r.st.enc,dl r.nnA (((r.ans.map An.enc).drop 0).take k),dl r.nnE (((r.evs.map Ev.enc).drop 0).take r.evs.length)])=_
  rw[List.drop_zero,List.drop_zero,List.take_of_length_le (by simp[hra]),List.take_of_length_le (by simp)]
  rfl
end Go.AM.SZ
namespace Go.AM.SZ
open Go Go.AM
end Go.AM.SZ
namespace Go.AM.SZ
open Go Go.AM
end Go.AM.SZ
namespace Go.AM.SZ
open Go Go.AM
theorem texts_nn (n1 n2:Bool) (l:List ByteArray) (hl:l.length≤1048576):F30.s FUEL (dl n1 (l.map dS)) (dl n2 (l.map dS))=some (db true):=by
 unfold F30.s
 refine cf (by simp) ?_
 refine goS_rule (fun t:F30.S4=>∃k:Nat,t=⟨dl n1 (l.map dS),dl n2 (l.map dS),(k:Int)⟩∧k≤l.length) (fun t=>l.length-t.i3.toNat) (fun o=>o=some (db true)) ?_ _ _ ⟨0,rfl,by omega⟩ (by simp[FUEL];omega)
 rintro _ rec ⟨k,rfl,hk⟩ hrec
 simp only[F30.st4]
 by_cases h1:k<l.length
 ·refine ct (by simp;omega) (ct (by simp;omega) (ct (by simp;omega) (cf (by simp) ?_)))
  have hadd:ad .i64 (k:Int) 1=((k+1:Nat):Int):=by rw[ad64 (by omega) (by omega)];rfl
  rw[hadd]
  exact hrec _ ⟨k+1,rfl,by omega⟩ (by simp;omega)
 ·exact cf (by simp;omega) rfl
theorem same_nnd {f g:Fl} (h:nnd g true=nnd f true) (hl:f.holds.length≤1048576):F29.s FUEL f.enc g.enc=some (db true):=by
 rw[nnd_eq h]
 generalize g.nn=b
 unfold F29.s
 refine ct (by show eqI f.id f.id=true;simp) (ct (by show eqS f.name f.name=true;simp) (ct (by show eqS f.data f.data=true;simp) ?_))
 have h3:f.enc.at 3=db f.sealed:=rfl
 have h3':(nnd f b).enc.at 3=db f.sealed:=rfl
 have h5:f.enc.at 5=dl f.nn (f.holds.map dS):=rfl
 have h5':(nnd f b).enc.at 5=dl b (f.holds.map dS):=rfl
 rw[h3,h3',h5,h5']
 refine bdS (x:=db true) (by rw[show eqDepth=15+1 from rfl,eqv_bool];simp) (ct rfl (ct (by show eqI f.until_ f.until_=true;simp) (bdS (texts_nn _ _ _ hl) rfl)))
end Go.AM.SZ
namespace Go.AM.SZ
open Go Go.AM
def stE (x:En):En:=⟨nnd x.file true,x.len,x.sum⟩
structure SimB (b b':Bk):Prop where
 es:b'.es.map stE=b.es.map stE
 last:b'.last=b.last
 floor:b'.floor=b.floor
theorem SimB.refl (b:Bk):SimB b b:=⟨rfl,rfl,rfl⟩
theorem SimB.len {b b':Bk} (h:SimB b b'):b'.es.length=b.es.length:=by
 have:=congrArg List.length h.es
 simpa using this
theorem SimB.get {b b':Bk} (h:SimB b b') {i:Nat} (hi:i<b.es.length) (hi':i<b'.es.length):b'.es[i]=⟨nnd b.es[i].file b'.es[i].file.nn,b.es[i].len,b.es[i].sum⟩:=by
 have h1:(b'.es.map stE)[i]? = (b.es.map stE)[i]?:=by rw[h.es]
 rw[List.getElem?_map,List.getElem?_map,List.getElem?_eq_getElem hi,List.getElem?_eq_getElem hi'] at h1
 have h2:=Option.some.inj h1
 generalize b'.es[i]=y at *
 generalize b.es[i]=x at *
 obtain⟨f,n,s⟩:=y
 simp only[stE,En.mk.injEq] at h2 ⊢
 exact⟨nnd_eq h2.1,h2.2⟩
theorem SimB.find {b b':Bk} (h:SimB b b') (id:Int):b'.es.findIdx? (fun x=>decide (x.file.id=id))=b.es.findIdx? (fun x=>decide (x.file.id=id)):=by
 have h1:(b'.es.map stE).findIdx? (fun x=>decide (x.file.id=id))=(b.es.map stE).findIdx? (fun x=>decide (x.file.id=id)):=by rw[h.es]
 rw[List.findIdx?_map,List.findIdx?_map] at h1
 exact h1
theorem SimB.named {b b':Bk} (h:SimB b b') (n:ByteArray):b'.es.any (fun x=>decide (x.file.name=n))=b.es.any (fun x=>decide (x.file.name=n)):=by
 have h1:(b'.es.map stE).any (fun x=>decide (x.file.name=n))=(b.es.map stE).any (fun x=>decide (x.file.name=n)):=by rw[h.es]
 rw[List.any_map,List.any_map] at h1
 exact h1
theorem findB_ref (b:Bk) (id:Int) (hl:b.es.length≤1000):F91.s FUEL b.enc id=some (di (findI (fun x=>decide (x.file.id=id)) b.es)):=by
 unfold F91.s
 refine goS_rule (fun t:F91.S2=>∃k:Nat,t=⟨id,(k:Int),b.enc⟩∧k≤b.es.length∧∀i (hi:i<b.es.length),i<k→(fun x:En=>decide (x.file.id=id)) b.es[i]=false) (fun t=>b.es.length-t.i2.toNat) (fun o=>o=some (di (findI (fun x=>decide (x.file.id=id)) b.es))) ?_ _ _ ⟨0,rfl,by omega,by intro i _ h;omega⟩ (by simp[FUEL];omega)
 rintro _ rec ⟨k,rfl,hk,hs⟩ hrec
 have h0:b.enc.at 0=dl b.nn (b.es.map En.enc):=rfl
 simp only[F91.st2,h0]
 by_cases h1:k<b.es.length
 ·have hadd:ad .i64 (k:Int) 1=((k+1:Nat):Int):=by rw[ad64 (by omega) (by omega)];rfl
  refine ct (by simp;omega) (ct (by simp;omega) ?_)
  simp only[elems_slice,Int.toNat_natCast,ix_map h1]
  rw[hadd]
  by_cases g:b.es[k].file.id=id
  ·refine ct (by show eqI b.es[k].file.id id=true;simp[g]) ?_
   rw[findI_some (findIdx_some_of h1 (fun i hi h=>hs i hi h) (by simp[g]))]
  ·refine cf (by show eqI b.es[k].file.id id=false;simp[g]) (hrec _ ⟨k+1,rfl,by omega,?_⟩ (by simp;omega))
   intro i hi hik
   by_cases g2:i=k
   ·subst g2;simp[g]
   ·exact hs i hi (by omega)
 ·refine cf (by simp;omega) ?_
  rw[findI_none (findIdx_none_of fun i hi=>hs i hi (by omega))]
theorem named_loop (L:List En) (hl:L.length≤1000) (e:Ev) (n7 n8:Nat) (d9 d10:D) (b12:Bool) (l13:List D) (i14 i15:Int) (b16:Bool) (d18:D) (K:F43.X18→Option D) :
  goS (F43.st18 FUEL) FUEL ⟨0,L.length,false,0,n7,n8,d9,d10,e.enc,b12,l13,i14,i15,b16,L.map En.enc,d18⟩ K=K (.e0 0 L.length (L.any fun x=>decide (x.file.name=e.name)) n7 n8 d9 d10 e.enc b12 l13 i14 i15 b16 (L.map En.enc) d18):=by
 refine goS_rule (fun t:F43.S18=>∃k:Nat,t=⟨0,L.length,(L.take k).any fun x=>decide (x.file.name=e.name),(k:Int),n7,n8,d9,d10,e.enc,b12,l13,i14,i15,b16,L.map En.enc,d18⟩∧k≤L.length) (fun t=>L.length-t.i6.toNat) (fun o=>o=K (.e0 0 L.length (L.any fun x=>decide (x.file.name=e.name)) n7 n8 d9 d10 e.enc b12 l13 i14 i15 b16 (L.map En.enc) d18)) ?_ _ _ ⟨0,by simp,by omega⟩ (by simp[FUEL];omega)
 rintro _ rec ⟨k,rfl,hk⟩ hrec
 simp only[F43.st18]
 by_cases h1:k<L.length
 ·have hadd:ad .i64 (k:Int) 1=((k+1:Nat):Int):=by rw[ad64 (by omega) (by omega)];rfl
  have step:(L.take (k+1)).any (fun x=>decide (x.file.name=e.name))=((L.take k).any (fun x=>decide (x.file.name=e.name))||decide (L[k].file.name=e.name)):=by
   rw[List.take_succ_eq_append_getElem h1,List.any_append];simp
  rw[hadd]
  refine ct (by simp;omega) ?_
  cases hb:(L.take k).any fun x=>decide (x.file.name=e.name)
  ·refine cf rfl (ct (by simp;omega) ?_)
   have hx:ix (L.map En.enc) (0+(k:Int).toNat)=L[k].enc:=by rw[Int.toNat_natCast,Nat.zero_add];exact ix_map h1
   rw[hx]
   refine hrec _ ⟨k+1,?_,by omega⟩ (by simp;omega)
   rw[step,hb]
   have:eqS ((L[k].enc.at 0).at 1).s (e.enc.at 2).s=decide (L[k].file.name=e.name):=by
    show eqS L[k].file.name e.name=_
    rw[Bool.eq_iff_iff];simp
   rw[this];rfl
  ·refine ct rfl (hrec _ ⟨k+1,?_,by omega⟩ (by simp;omega))
   rw[step,hb];rfl
 ·refine cf (by simp;omega) ?_
  have hkl:k=L.length:=by omega
  subst hkl
  rw[List.take_length]
theorem sim_setB {b b':Bk} (h:SimB b b') (i:Nat) {y y':En} (hy:stE y'=stE y) {n1 n2:Bool}:SimB { b with es:=b.es.set i y,nn:=n1 } { b' with es:=b'.es.set i y',nn:=n2 }:=
 ⟨by simp only[List.map_set,h.es,hy],h.last,h.floor⟩
theorem sim_delB {b b':Bk} (h:SimB b b') (i:Nat) {n1 n2:Bool}:SimB { b with es:=b.es.eraseIdx i,nn:=n1 } { b' with es:=b'.es.eraseIdx i,nn:=n2 }:=
 ⟨by simp only[←eraseIdx_map',h.es],h.last,h.floor⟩
theorem sim_addB {b b':Bk} (h:SimB b b') (y:En) (n:Int) {n1 n2:Bool}:SimB { b with es:=b.es++[y],nn:=n1,last:=n } { b' with es:=b'.es++[y],nn:=n2,last:=n }:=
 ⟨by simp only[List.map_append,h.es],rfl,h.floor⟩
theorem play_id {b:Bk} {e:Ev} (hv:evB e=true) (h7:e.kind≠7) (h0:e.kind≠0):playB b e=match b.es.findIdx? (fun x=>decide (x.file.id=e.id)) with
  | none=>(b,13)
  | some i=>match b.es[i]? with
   | none=>(b,13)
   | some x=>if e.kind=6 then (if mayN x.file b.floor=0 then ({ b with es:=b.es.eraseIdx i },0) else (b,13))
    else match deedE e x with
     | none=>(b,13)
     | some y=>({ b with es:=b.es.set i y },0):=by
 unfold playB
 rw[if_neg (by simp[hv]),if_neg h7,if_neg h0]
 rfl
def PlayP (b:Bk) (e:Ev) (b0:Bk) (R:Option D):Prop:=∃c:Bk,R=some (.tup [c.enc,di (playB b e).2])∧SimB (playB b e).1 c
theorem play_ref (b b':Bk) (hsim:SimB b b') (e:Ev) (hb:BkOk b) (hn:e.name.size≤1048576) (hs:e.sum.length=32) :
  ∃c:Bk,F43.s FUEL b'.enc e.enc=some (.tup [c.enc,di (playB b e).2])∧SimB (playB b e).1 c:=by
 have hl:=hb.len
 have hl':=hsim.len
 have h0:b'.enc.at 0=dl b'.nn (b'.es.map En.enc):=rfl
 have h1:(b'.enc.at 1)=di b'.last:=rfl
 have h2:(b'.enc.at 2)=di b'.floor:=rfl
 have k0:(e.enc.at 0).i=e.kind:=rfl
 have k1:(e.enc.at 1).i=e.id:=rfl
 have k2:(e.enc.at 2).s=e.name:=rfl
 have k3:(e.enc.at 3).i=e.time:=rfl
 have k4:(e.enc.at 4).i=e.len:=rfl
 have k5:e.enc.at 5=sumD e.sum:=rfl
 show PlayP b e b' (F43.s FUEL b'.enc e.enc)
 unfold F43.s
 have bad:(playB b e)=(b,13)→PlayP b e b' (some (D.tup [b'.enc,(di 13)])):=by
  intro h
  unfold PlayP
  rw[h]
  exact⟨b',rfl,hsim⟩
 have ctQ:∀{c:Bool} {x y:Option D},c=true→PlayP b e b' x→PlayP b e b' (cond c x y):=by rintro c x y rfl h;exact h
 have cfQ:∀{c:Bool} {x y:Option D},c=false→PlayP b e b' y→PlayP b e b' (cond c x y):=by rintro c x y rfl h;exact h
 have bdQ:∀{o:Option D} {x:D} {f:D→Option D},o=some x→PlayP b e b' (f x)→PlayP b e b' (bd o f):=by rintro o x f rfl h;exact h
 refine bdQ (valid_ev e hn hs) ?_
 cases hv:evB e
 ·exact ctQ rfl (bad (play_bad b e hv))
 refine cfQ rfl ?_
 have hr:=valid_range hv
 rw[h0,h1,h2,k0,k1,k3,k4,k5]
 refine ctQ (by simp;omega) ?_
 have hcopy:((dl b'.nn (b'.es.map En.enc)).elems.drop 0).take (dl b'.nn (b'.es.map En.enc)).elems.length=b'.es.map En.enc:=by
  rw[elems_slice,List.drop_zero];exact List.take_of_length_le (Nat.le_refl _)
 rw[hcopy]
 simp only[elems_slice]
 refine bdQ (findB_ref ⟨!(b'.es.map En.enc).isEmpty,b'.es,b'.last,b'.floor⟩ e.id (by show b'.es.length≤1000;omega)) ?_
 show PlayP b e b' (cond _ _ _)
 rw[show findI (fun x:En=>decide (x.file.id=e.id)) (Bk.mk (!(b'.es.map En.enc).isEmpty) b'.es b'.last b'.floor).es=findI (fun x:En=>decide (x.file.id=e.id)) b.es by unfold findI;rw[hsim.find]]
 by_cases h7:e.kind=7
 ·refine ctQ (by simpa using h7) ?_
  by_cases g:e.time≤b.floor
  ·refine ctQ (by simp only[i_int,leI_t];rw[hsim.floor];exact g) (bad ?_)
   unfold playB;rw[if_neg (by simp[hv]),if_pos h7,if_pos g]
  ·refine cfQ (by simp only[i_int,leI_f];rw[hsim.floor];omega) ?_
   have hp:playB b e=({ b with floor:=e.time },0):=play_tick hv h7 g
   unfold PlayP
   rw[hp]
   exact⟨⟨!(b'.es.map En.enc).isEmpty,b'.es,b'.last,e.time⟩,rfl,hsim.es,hsim.last,rfl⟩
 refine cfQ (by simpa using h7) ?_
 by_cases h00:e.kind=0
 ·refine ctQ (by simpa using h00) ?_
  have hlen:(b'.es.map En.enc).length=b'.es.length:=by simp
  rw[hlen]
  rw[named_loop b'.es (by omega) e 0 b'.es.length (di b'.last) (di b'.floor) false [] 0 0 (!(b'.es.map En.enc).isEmpty) b'.enc _]
  have hid:sb .i64 e.id 1=e.id-1:=by
   have:=hr.2.2.2.2.2.2.2.1
   rw[sb64 (by omega) (by omega)]
  simp only[i_int,k1,hid]
  have hall:∀(q:¬(e.id-1≠b.last)),12≤b.es.length∨b.es.any (fun x=>decide (x.file.name=e.name))=true→playB b e=(b,13):=by
   intro q h
   unfold playB
   rw[if_neg (by simp[hv]),if_neg h7,if_pos h00,if_neg q]
   by_cases g12:12≤b.es.length
   ·rw[if_pos g12]
   ·rw[if_neg g12]
    rw[if_pos ((findI_nonneg (p:=fun x:En=>decide (x.file.name=e.name))).2 (by rcases h with h | h;exact absurd h g12;exact h))]
  by_cases g1:e.id-1=b.last
  ·refine cfQ (by simp only[neI_f];rw[hsim.last];exact g1) ?_
   rw[hsim.named]
   cases hnm:b.es.any fun x=>decide (x.file.name=e.name)
   ·refine cfQ rfl ?_
    by_cases g12:12≤b.es.length
    ·exact ctQ (by simp;omega) (bad (hall (by simpa using g1) (.inl g12)))
    ·refine cfQ (by simp;omega) (ctQ (by simp;omega) ?_)
     have hno:¬0≤findI (fun x:En=>decide (x.file.name=e.name)) b.es:=by
      rw[findI_nonneg,hnm];simp
     have hp:=play_create (b:=b) hv h00 g1 g12 hno
     unfold PlayP
     rw[hp]
     refine⟨⟨true,b'.es++[⟨⟨e.id,e.name,bs [],false,0,false,[]⟩,0,zeros⟩],e.id,b'.floor⟩,?_,sim_addB hsim _ _⟩
     have hz:da (rp 32 (D.int .u8 0))=sumD zeros:=zeros_encA
     rw[hz]
     rw[show ((ap (((b'.es.map En.enc).drop 0).take b'.es.length) [da [da [e.enc.at 1,e.enc.at 2,dS (bs []),db false,di 0,dl false []],di 0,sumD zeros]]).drop 0).take (b'.es.length+1)=(b'.es++([⟨⟨e.id,e.name,bs [],false,0,false,[]⟩,0,zeros⟩]:List En)).map En.enc by
      rw[List.drop_zero,List.drop_zero,show (b'.es.map En.enc).take b'.es.length=b'.es.map En.enc from List.take_of_length_le (by simp),List.take_of_length_le (by simp[ap]),List.map_append];rfl]
     simp only[Bool.or_true]
     rfl
   ·exact ctQ rfl (bad (hall (by simpa using g1) (.inr hnm)))
  ·refine ctQ (by simp only[neI_t];rw[hsim.last];exact g1) (bad ?_)
   unfold playB
   rw[if_neg (by simp[hv]),if_neg h7,if_pos h00,if_pos g1]
 refine cfQ (by simpa using h00) ?_
 have hpid:=play_id (b:=b) hv h7 h00
 cases hx:b.es.findIdx? (fun x=>decide (x.file.id=e.id)) with
 | none=>
  rw[hx] at hpid
  rw[findI_none hx]
  exact ctQ rfl (bad hpid)
 | some i=>
  have hi:=findIdx_lt hx
  have hi':i<b'.es.length:=by omega
  rw[hx] at hpid
  simp only[List.getElem?_eq_getElem hi] at hpid
  rw[findI_some hx]
  have hxo:=hb.es _ (List.getElem_mem hi)
  have hget:=hsim.get hi hi'
  have hix:ix (b'.es.map En.enc) (0+(D.int .i64 (i:Int)).i.toNat)=b'.es[i].enc:=by
   rw[i_int,Int.toNat_natCast,Nat.zero_add];exact ix_map hi'
  rw[hix,hget]
  generalize hcd:b'.es[i].file.nn=cn
  have hE0:(En.enc ⟨nnd b.es[i].file cn,b.es[i].len,b.es[i].sum⟩).at 0=(nnd b.es[i].file cn).enc:=rfl
  have hE1:((En.enc ⟨nnd b.es[i].file cn,b.es[i].len,b.es[i].sum⟩).at 1).i=b.es[i].len:=rfl
  have hin:inb (D.int .i64 (i:Int)).i (b'.es.map En.enc).length=true:=by simp;omega
  rw[hE0,hE1]
  refine cfQ (by simp) (ctQ hin ?_)
  have fin:∀{n:Bool} (y y':En) (v:D),v=y'.enc→stE y'=stE y→deedE e b.es[i]=some y→e.kind≠6→PlayP b e b' (cond (inb (D.int .i64 (i:Int)).i (b'.es.map En.enc).length) (some (D.tup [da [dl n ((((b'.es.map En.enc).set (0+(D.int .i64 (i:Int)).i.toNat) v).drop 0).take (b'.es.map En.enc).length),di b'.last,di b'.floor],di 0])) none):=by
   intro n y y' v hv' hst hd h6
   refine ctQ hin ?_
   rw[if_neg h6,hd] at hpid
   unfold PlayP
   rw[hpid]
   refine⟨⟨n,b'.es.set i y',b'.last,b'.floor⟩,?_,sim_setB hsim i hst⟩
   rw[hv',i_int,Int.toNat_natCast,Nat.zero_add,row_set (by simp)]
   rfl
  have errD:e.kind≠6→deedE e b.es[i]=none→playB b e=(b,13):=by
   intro h6 hd
   rw[hpid,if_neg h6,hd]
  have hp7:=hr.2.1
  have hp0:=hr.1
  by_cases h6:e.kind=6
  ·
   refine cfQ (by simp[h6]) (cfQ (by simp[h6]) (cfQ (by simp[h6]) (cfQ (by simp[h6]) (cfQ (by simp[h6]) (ctQ (by simp[h6]) ?_)))))
   rw[if_pos h6] at hpid
   refine bdQ (may_ref b.es[i].file cn _) ?_
   rw[i_int,i_int,hsim.floor]
   by_cases hm:mayN b.es[i].file b.floor=0
   ·rw[if_pos hm] at hpid
    have hadd:ad .i64 (i:Int) 1=((i+1:Nat):Int):=by rw[ad64 (by omega) (by omega)];rfl
    simp only[i_int,hadd]
    refine cfQ (by simpa using hm) (ctQ (by simp[h6]) (ctQ (by simp;omega) (ctQ (by simp;omega) (ctQ (by simp;omega) (ctQ (by simp;omega) ?_)))))
    have mk:∀(n:Bool) (X:List D),X=(b'.es.eraseIdx i).map En.enc→PlayP b e b' (some (D.tup [da [dl n X,di b'.last,di b.floor],di 0])):=by
     intro n X hX
     unfold PlayP
     rw[hpid,hX]
     exact⟨⟨n,b'.es.eraseIdx i,b'.last,b.floor⟩,rfl,⟨by simp only[←eraseIdx_map',hsim.es],hsim.last,rfl⟩⟩
    refine mk _ _ ?_
    have hdel:=del_take (l:=b'.es.map En.enc) (i:=i) (by simpa using hi')
    rw[Int.toNat_natCast,Int.toNat_natCast,Nat.zero_add,hdel,←eraseIdx_map']
   ·rw[if_neg hm] at hpid
    exact ctQ (by simpa using hm) (bad hpid)
  have hk6:eqI e.kind 6=false:=by simpa using h6
  simp only[hk6,cond_false]
  by_cases c1:e.kind=1
  ·refine ctQ (by simp[c1]) ?_
   have hd:deedE e b.es[i]=if b.es[i].file.sealed=true then none else if 600-e.len<b.es[i].len then none else some { b.es[i] with len:=b.es[i].len+e.len }:=by unfold deedE;rw[if_pos c1]
   have hsl:((nnd b.es[i].file cn).enc.at 3).b=b.es[i].file.sealed:=rfl
   rw[hsl]
   cases hse:b.es[i].file.sealed
   ·rw[hse] at hd
    have hsub:sb .i64 600 e.len=600-e.len:=by rw[sb64 (by omega) (by omega)]
    rw[hsub]
    refine cfQ rfl ?_
    by_cases g:600-e.len<b.es[i].len
    ·rw[if_pos g] at hd
     exact ctQ (by simpa using g) (bad (errD h6 (by rw[hd];simp)))
    ·rw[if_neg g] at hd
     refine cfQ (by simp;omega) ?_
     have hadd:ad .i64 b.es[i].len e.len=b.es[i].len+e.len:=by have:=hxo.len0;have:=hxo.len1;rw[ad64 (by omega) (by omega)]
     rw[hadd]
     exact fin { b.es[i] with len:=b.es[i].len+e.len } ⟨nnd b.es[i].file cn,b.es[i].len+e.len,b.es[i].sum⟩ _ rfl rfl (by rw[hd];simp) h6
   ·rw[hse] at hd
    exact ctQ rfl (bad (errD h6 (by rw[hd];simp)))
  refine cfQ (by simpa using c1) ?_
  by_cases c2:e.kind=2
  ·refine ctQ (by simp[c2]) (bdQ (seal_ref b.es[i].file cn e.time) ?_)
   have hd:deedE e b.es[i]=if b.es[i].len≠e.len then none else if (sealF b.es[i].file e.time).2=0 then some { b.es[i] with file:=(sealF b.es[i].file e.time).1,sum:=e.sum } else none:=by unfold deedE;rw[if_neg c1,if_pos c2]
   by_cases g:b.es[i].len=e.len
   ·rw[if_neg (by simpa using g)] at hd
    refine cfQ (by simpa using g) ?_
    by_cases g2:(sealF b.es[i].file e.time).2=0
    ·rw[if_pos g2] at hd
     exact cfQ (by show neI (sealF b.es[i].file e.time).2 0=false;simpa using g2) (fin { b.es[i] with file:=(sealF b.es[i].file e.time).1,sum:=e.sum } ⟨nnd (sealF b.es[i].file e.time).1 cn,b.es[i].len,e.sum⟩ _ rfl rfl hd h6)
    ·rw[if_neg g2] at hd
     exact ctQ (by show neI (sealF b.es[i].file e.time).2 0=true;simpa using g2) (bad (errD h6 hd))
   ·rw[if_pos (by simpa using g)] at hd
    exact ctQ (by simpa using g) (bad (errD h6 hd))
  refine cfQ (by simpa using c2) ?_
  by_cases c3:e.kind=3
  ·refine ctQ (by simp[c3]) (bdQ (extend_ref b.es[i].file cn e.time) ?_)
   have hd:deedE e b.es[i]=if (extendF b.es[i].file e.time).2=0 then some { b.es[i] with file:=(extendF b.es[i].file e.time).1 } else none:=by unfold deedE;rw[if_neg c1,if_neg c2,if_pos c3]
   by_cases g2:(extendF b.es[i].file e.time).2=0
   ·rw[if_pos g2] at hd
    exact cfQ (by show neI (extendF b.es[i].file e.time).2 0=false;simpa using g2) (fin { b.es[i] with file:=(extendF b.es[i].file e.time).1 } ⟨nnd (extendF b.es[i].file e.time).1 cn,b.es[i].len,b.es[i].sum⟩ _ rfl rfl hd h6)
   ·rw[if_neg g2] at hd
    exact ctQ (by show neI (extendF b.es[i].file e.time).2 0=true;simpa using g2) (bad (errD h6 hd))
  refine cfQ (by simpa using c3) ?_
  by_cases c4:e.kind=4
  ·obtain⟨c,eh⟩:=hold_ref b.es[i].file cn e.name hn (by have:=hxo.hold;omega) hxo.size
   refine ctQ (by simp[c4]) (bdQ eh ?_)
   have hd:deedE e b.es[i]=if (holdF b.es[i].file e.name).2=0 then some { b.es[i] with file:=(holdF b.es[i].file e.name).1 } else none:=by unfold deedE;rw[if_neg c1,if_neg c2,if_neg c3,if_pos c4]
   by_cases g2:(holdF b.es[i].file e.name).2=0
   ·rw[if_pos g2] at hd
    exact cfQ (by show neI (holdF b.es[i].file e.name).2 0=false;simpa using g2) (fin { b.es[i] with file:=(holdF b.es[i].file e.name).1 } ⟨nnd (holdF b.es[i].file e.name).1 c,b.es[i].len,b.es[i].sum⟩ _ rfl rfl hd h6)
   ·rw[if_neg g2] at hd
    exact ctQ (by show neI (holdF b.es[i].file e.name).2 0=true;simpa using g2) (bad (errD h6 hd))
  have c5:e.kind=5:=by omega
  refine cfQ (by simpa using c4) ?_
  obtain⟨c,eh⟩:=release_ref b.es[i].file cn e.name (by have:=hxo.hold;omega)
  refine ctQ (by simp[c5]) (bdQ eh ?_)
  have hd:deedE e b.es[i]=if (releaseF b.es[i].file e.name).2=0 then some { b.es[i] with file:=(releaseF b.es[i].file e.name).1 } else none:=by unfold deedE;rw[if_neg c1,if_neg c2,if_neg c3,if_neg c4]
  by_cases g2:(releaseF b.es[i].file e.name).2=0
  ·rw[if_pos g2] at hd
   exact cfQ (by show neI (releaseF b.es[i].file e.name).2 0=false;simpa using g2) (fin { b.es[i] with file:=(releaseF b.es[i].file e.name).1 } ⟨nnd (releaseF b.es[i].file e.name).1 c,b.es[i].len,b.es[i].sum⟩ _ rfl rfl hd h6)
  ·rw[if_neg g2] at hd
   exact ctQ (by show neI (releaseF b.es[i].file e.name).2 0=true;simpa using g2) (bad (errD h6 hd))
end Go.AM.SZ
namespace Go.AM.SZ
open Go Go.AM Go.Proofs Go.RowKit
namespace F4
end F4
end Go.AM.SZ
namespace Go.AM.SZ
open Go Go.AM
theorem meta_specM (f:Fl):F41.s FUEL f.enc=some (metaF f).enc:=rfl
theorem ofM_spec (s:St) (hs:StOk s):F18.s FUEL s.enc=some (Bk.enc { ofM shaL s with nn:=decide (0<s.files.length) }):=by
 have hl:=hs.len
 unfold F18.s
 have h0:s.enc.at 0=dl s.nn (s.files.map Fl.enc):=rfl
 rw[h0]
 refine goS_rule (fun t:F18.S3=>∃(k:Nat) (L:List D),t=⟨dl s.nn (s.files.map Fl.enc),nI (s.files.map Fl.enc).length,(k:Int),s.enc,false,[],0,0,0,k,s.enc.at 1,s.enc.at 2,decide (0<k),L⟩∧k≤s.files.length∧L.length=k∧L=((s.files.take k).map (ofE shaL)).map En.enc) (fun t=>s.files.length-t.i3.toNat) (fun o=>o=some (Bk.enc { ofM shaL s with nn:=decide (0<s.files.length) })) ?_ _ _ ⟨0,[],rfl,by omega,rfl,by simp⟩ (by simp[FUEL];omega)
 rintro _ rec ⟨k,L,rfl,hk,hL,hLe⟩ hrec
 simp only[F18.st3]
 by_cases h1:k<s.files.length
 ·have hadd:ad .i64 (k:Int) 1=((k+1:Nat):Int):=by rw[ad64 (by omega) (by omega)];rfl
  have hf:=hs.files _ (List.getElem_mem h1)
  have hd:=hf.data
  refine ct (by simp;omega) (ct (by simp;omega) ?_)
  simp only[elems_slice,Int.toNat_natCast,ix_map h1]
  have hdt:(L.drop 0).take k=L:=by rw[List.drop_zero,List.take_of_length_le (by omega)]
  have hmx:mx (k+1)=true:=by simp;omega
  have hor:(decide (0<k)||true)=decide (0<k+1):=by simp
  refine bdS (meta_specM s.files[k]) ?_
  have step:∀x:D,x=(ofE shaL s.files[k]).enc→rec ⟨dl s.nn (s.files.map Fl.enc),nI (s.files.map Fl.enc).length,ad .i64 (k:Int) 1,s.enc,false,[],0,0,0,k+1,s.enc.at 1,s.enc.at 2,(decide (0<k)||true),ap ((L.drop 0).take k) [x]⟩=some (Bk.enc { ofM shaL s with nn:=decide (0<s.files.length) }):=by
   intro x hx
   rw[hadd,hor,hdt]
   refine hrec _ ⟨k+1,_,rfl,by omega,by simp[ap,hL],?_⟩ (by simp;omega)
   rw[hx,hLe,List.take_succ_eq_append_getElem h1,List.map_append,List.map_append]
   rfl
  cases hse:s.files[k].sealed with
  | true=>
   refine ct hse (bdS (sha_spec s.files[k].data (by omega)) (ct hmx ?_))
   refine step _ ?_
   have e:ofE shaL s.files[k]=⟨metaF s.files[k],(s.files[k].data.size:Int),shaL s.files[k].data⟩:=by unfold ofE;rw[if_pos hse]
   rw[e]
   generalize shaL s.files[k].data=h
   rfl
  | false=>
   refine cf hse (ct hmx ?_)
   refine step _ ?_
   have hz:da (rp 32 (D.int .u8 0))=sumD zeros:=by kernel_rfl
   have e:ofE shaL s.files[k]=⟨metaF s.files[k],(s.files[k].data.size:Int),zeros⟩:=by unfold ofE;rw[hse];rfl
   rw[e,hz]
   rfl
 ·refine cf (by simp;omega) ?_
  have hkk:k=s.files.length:=by omega
  subst hkk
  rw[List.drop_zero,List.take_of_length_le (by omega),hLe,List.take_of_length_le (by omega)]
  rfl
theorem ofM_ok {s:St} (hs:StOk s):BkOk (ofM shaL s):=by
 refine⟨by simpa[ofM] using hs.len,fun h=>by simp[ofM] at h ⊢;exact hs.nil h,hs.last0,hs.last1,?_⟩
 intro x hx
 obtain⟨f,hf,rfl⟩:=List.mem_map.1 hx
 have hk:=hs.files f hf
 refine⟨hk.hold,fun t ht=>by have:=hk.hsz t ht;omega,hk.nil,?_,hk.id0,hk.id1,by simp[ofE],by have:=hk.data;simp only[ofE];omega⟩
 simp only[ofE]
 split
 ·exact shaL_len _
 ·rfl
end Go.AM.SZ
namespace Go.AM.SZ
open Go Go.AM
theorem few_spec (nn:Bool) (l:List Ev):F19.s FUEL (dl nn (l.map Ev.enc))=some (db (fewB l)):=by
 unfold F19.s
 refine goS_rule (fun s=>∃k:Nat,s=⟨dl nn (l.map Ev.enc),k⟩∧k≤21∧∀i (h:i<l.length),i<k→l[i].name.size≤100) (fun s=>21-s.i2.toNat) (fun o=>o=some (db (fewB l))) ?_ _ _ ⟨0,rfl,by omega,by omega⟩ (by simp[FUEL])
 rintro _ rec ⟨k,rfl,hk,hs⟩ hrec
 have hall:(∀i (h:i<l.length),i≤20→l[i].name.size≤100)→(l.take 21).all (fun e=>decide (e.name.size≤100))=true:=by
  intro h
  simp only[List.all_eq_true,decide_eq_true_eq]
  intro e he
  obtain⟨i,hi,rfl⟩:=List.getElem_of_mem he
  simp at hi ⊢
  exact h i (by omega) (by omega)
 simp only[F19.st2]
 by_cases h1:k<l.length
 ·refine ct (by simp;omega) ?_
  by_cases h2:k≤20
  ·refine ct (by simp;omega) (ct (by simp;omega) ?_)
   simp only[elems_slice,Int.toNat_natCast,ix_map h1]
   by_cases h3:l[k].name.size≤100
   ·refine cf (by simp[Ev.enc];omega) ?_
    refine hrec _ ⟨k+1,?_,by omega,?_⟩ ?_
    ·rw[ad64 (by omega) (by omega)];rfl
    ·intro i hi hik
     by_cases hik':i=k
     ·subst hik';exact h3
     ·exact hs i hi (by omega)
    ·rw[ad64 (by omega) (by omega)];simp;omega
   ·refine ct (by simp[Ev.enc];omega) ?_
    have:(l.take 21).all (fun e=>decide (e.name.size≤100))=false:=by
     rw[List.all_eq_false]
     refine⟨l[k],?_,by simpa using h3⟩
     rw[List.mem_take_iff_getElem]
     exact⟨k,by omega,rfl⟩
    simp[fewB,this]
  ·refine cf (by simp;omega) ?_
   have:¬l.length≤20:=by omega
   simp[fewB,this,leI]
   try omega
 ·refine cf (by simp;omega) ?_
  have:=hall (fun i hi hi2=>hs i hi (by omega))
  simp[fewB,this,leI]
  omega
theorem allB_ref (nn:Bool) (l:List Ev) (hl:EvsOk l) (hlen:l.length≤1048576):∃c:Bk,F21.s FUEL (dl nn (l.map Ev.enc))=some (.tup [c.enc,di (runB l emptyB 0).2.1,di (runB l emptyB 0).2.2])∧SimB (runB l emptyB 0).1 c:=by
 unfold F21.s
 refine goS_rule (fun t:F21.S3=>∃(k:Nat) (b b':Bk),t=⟨dl nn (l.map Ev.enc),(k:Int),false,[],0,0,b'.enc⟩∧k≤l.length∧BkOk b∧SimB b b'∧runB l emptyB 0=runB (l.drop k) b k) (fun t=>l.length-t.i13.toNat) (fun o=>∃c:Bk,o=some (.tup [c.enc,di (runB l emptyB 0).2.1,di (runB l emptyB 0).2.2])∧SimB (runB l emptyB 0).1 c) ?_ _ _ ⟨0,emptyB,emptyB,by simp;rfl,by omega,empty_ok,SimB.refl _,by simp⟩ (by simp[FUEL];omega)
 rintro _ rec ⟨k,b,b',rfl,hk,hb,hsim,hr⟩ hrec
 simp only[F21.st3]
 by_cases h1:k<l.length
 ·have hadd:ad .i64 (k:Int) 1=((k+1:Nat):Int):=by rw[ad64 (by omega) (by omega)];rfl
  have he:=hl _ (List.getElem_mem h1)
  obtain⟨c,hc,hsc⟩:=play_ref b b' hsim l[k] hb he.2.1 he.2.2
  rw[List.drop_eq_getElem_cons h1,runB] at hr
  have e1:ltI (k:Int) (nI (dl nn (l.map Ev.enc)).elems.length)=true:=by simp;omega
  have e2:inb (k:Int) (dl nn (l.map Ev.enc)).elems.length=true:=by simp;omega
  have e3:ix (dl nn (l.map Ev.enc)).elems (k:Int).toNat=l[k].enc:=by rw[Int.toNat_natCast];exact ix_map h1
  rw[e1,e2,e3,hc]
  simp only[cond_true,bd]
  by_cases h2:(playB b l[k]).2=0
  ·rw[if_pos h2] at hr
   have e4:neI ((D.tup [c.enc,di (playB b l[k]).2]).at 1).i 0=false:=by show neI (playB b l[k]).2 0=false;simpa using h2
   rw[e4,hadd]
   exact hrec _ ⟨k+1,(playB b l[k]).1,c,rfl,by omega,play_ok hb he.2.1 he.2.2,hsc,hr⟩ (by simp;omega)
  ·rw[if_neg h2] at hr
   have e4:neI ((D.tup [c.enc,di (playB b l[k]).2]).at 1).i 0=true:=by show neI (playB b l[k]).2 0=true;simpa using h2
   have e5:(playB b l[k]).2=13:=by
    rcases play_err b l[k] with h | h
    ·exact absurd h h2
    ·exact h.1
   rw[e4,hr]
   refine⟨b',?_,hsim⟩
   simp only[cond_true,e5]
 ·have e1:ltI (k:Int) (nI (dl nn (l.map Ev.enc)).elems.length)=false:=by simp;omega
  rw[e1]
  rw[List.drop_of_length_le (by omega)] at hr
  rw[hr]
  exact⟨b',rfl,hsim⟩
theorem ofB_spec (b:Bk) (hl:b.es.length≤1000):F23.s FUEL b.enc=some (Bk.enc { b with nn:=decide (0<b.es.length) }):=by
 unfold F23.s
 have h0:b.enc.at 0=dl b.nn (b.es.map En.enc):=rfl
 refine goS_rule (fun t:F23.S3=>∃k:Nat,t=⟨(k:Int),b.enc,false,[],0,0,0,k,b.enc.at 1,b.enc.at 2,decide (0<k),(b.es.take k).map En.enc⟩∧k≤b.es.length) (fun t=>b.es.length-t.i1.toNat) (fun o=>o=some (Bk.enc { b with nn:=decide (0<b.es.length) })) ?_ _ _ ⟨0,by simp,by omega⟩ (by simp[FUEL];omega)
 rintro _ rec ⟨k,rfl,hk⟩ hrec
 simp only[F23.st3,h0]
 by_cases h1:k<b.es.length
 ·have hadd:ad .i64 (k:Int) 1=((k+1:Nat):Int):=by rw[ad64 (by omega) (by omega)];rfl
  refine ct (by simp;omega) (ct (by simp;omega) (ct (by simp;omega) ?_))
  simp only[elems_slice,Int.toNat_natCast,ix_map h1]
  rw[hadd]
  refine hrec _ ⟨k+1,?_,by omega⟩ (by simp;omega)
  rw[List.drop_zero,show ((b.es.take k).map En.enc).take k=(b.es.take k).map En.enc from List.take_of_length_le (by rw[List.length_map,List.length_take];omega),List.take_succ_eq_append_getElem h1,List.map_append]
  have hor:(decide (0<k)||true)=decide (0<k+1):=by simp
  rw[hor]
  rfl
 ·refine cf (by simp;omega) ?_
  have hkl:k=b.es.length:=by omega
  subst hkl
  rw[List.take_length,List.drop_zero,List.take_of_length_le (by simp)]
  rfl
theorem sameB_ref {b c:Bk} (h:SimB b c) (hl:b.es.length≤1000) (hes:∀x∈b.es,x.file.holds.length≤1000∧x.sum.length=32):F22.s FUEL b.enc c.enc=some (db true):=by
 unfold F22.s
 have hlen:=h.len
 have h0:b.enc.at 0=dl b.nn (b.es.map En.enc):=rfl
 have h0':c.enc.at 0=dl c.nn (c.es.map En.enc):=rfl
 rw[h0,h0']
 refine cf (by simp;omega) (cf (by show neI b.last c.last=false;rw[h.last];simp) (cf (by show neI b.floor c.floor=false;rw[h.floor];simp) ?_))
 refine goS_rule (fun t:F22.S4=>∃k:Nat,t=⟨(k:Int),b.enc,c.enc⟩∧k≤b.es.length) (fun t=>b.es.length-t.i1.toNat) (fun o=>o=some (db true)) ?_ _ _ ⟨0,rfl,by omega⟩ (by simp[FUEL];omega)
 rintro _ rec ⟨k,rfl,hk⟩ hrec
 simp only[F22.st4,h0,h0']
 by_cases h1:k<b.es.length
 ·have h1':k<c.es.length:=by omega
  have hx:=hes _ (List.getElem_mem h1)
  have hg:=h.get h1 h1'
  refine ct (by simp;omega) (ct (by simp;omega) (ct (by simp;omega) ?_))
  simp only[elems_slice,Int.toNat_natCast,ix_map h1,ix_map h1']
  rw[hg]
  refine bdS (x:=db true) (same_nnd (f:=b.es[k].file) (g:=nnd b.es[k].file c.es[k].file.nn) rfl (by omega)) (cf rfl (cf (by show neI b.es[k].len b.es[k].len=false;simp) ?_))
  refine bdS (x:=db false) ?_ (cf rfl ?_)
  ·show (match D.eqv ty eqDepth (sumD b.es[k].sum) (sumD b.es[k].sum) (.array 32 5) with | some z=>some (D.bool (!z)) | none=>none)=_
   have:=eqv_sum 14 hx.2 hx.2
   rw[show eqDepth=14+2 from rfl,this];simp
  ·refine hrec _ ⟨k+1,?_,by omega⟩ ?_
   ·rw[ad64 (by omega) (by omega)];rfl
   ·rw[ad64 (by omega) (by omega)];simp;omega
 ·exact cf (by simp;omega) rfl
theorem ofM_ref (s:St) (hs:StOk s):F24.s FUEL s.enc=some (Bk.enc { ofM shaL s with nn:=decide (0<s.files.length) }):=by
 have hl:=hs.len
 unfold F24.s
 have h0:s.enc.at 0=dl s.nn (s.files.map Fl.enc):=rfl
 refine goS_rule (fun t:F24.S3=>∃k:Nat,t=⟨(k:Int),s.enc,false,[],0,0,0,k,s.enc.at 1,s.enc.at 2,decide (0<k),((s.files.take k).map (ofE shaL)).map En.enc⟩∧k≤s.files.length) (fun t=>s.files.length-t.i1.toNat) (fun o=>o=some (Bk.enc { ofM shaL s with nn:=decide (0<s.files.length) })) ?_ _ _ ⟨0,by simp,by omega⟩ (by simp[FUEL];omega)
 rintro _ rec ⟨k,rfl,hk⟩ hrec
 simp only[F24.st3,h0]
 by_cases h1:k<s.files.length
 ·have hadd:ad .i64 (k:Int) 1=((k+1:Nat):Int):=by rw[ad64 (by omega) (by omega)];rfl
  have hf:=hs.files _ (List.getElem_mem h1)
  have hd:=hf.data
  refine ct (by simp;omega) (ct (by simp;omega) ?_)
  simp only[elems_slice,Int.toNat_natCast,ix_map h1]
  have hdt:(((((s.files.take k).map (ofE shaL)).map En.enc)).drop 0).take k=((s.files.take k).map (ofE shaL)).map En.enc:=by rw[List.drop_zero];exact List.take_of_length_le (by simp;omega)
  have hmx:mx (k+1)=true:=by simp;omega
  have hor:(decide (0<k)||true)=decide (0<k+1):=by simp
  have step:∀x:D,x=(ofE shaL s.files[k]).enc→rec ⟨ad .i64 (k:Int) 1,s.enc,false,[],0,0,0,k+1,s.enc.at 1,s.enc.at 2,(decide (0<k)||true),ap ((((((s.files.take k).map (ofE shaL)).map En.enc)).drop 0).take k) [x]⟩=some (Bk.enc { ofM shaL s with nn:=decide (0<s.files.length) }):=by
   intro x hx
   rw[hadd,hor,hdt]
   refine hrec _ ⟨k+1,?_,by omega⟩ (by simp;omega)
   rw[hx,List.take_succ_eq_append_getElem h1,List.map_append,List.map_append]
   rfl
  cases hse:s.files[k].sealed with
  | true=>
   refine ct hse (bdS (sha_ref s.files[k].data (by omega)) (ct hmx ?_))
   refine step _ ?_
   have e:ofE shaL s.files[k]=⟨metaF s.files[k],(s.files[k].data.size:Int),shaL s.files[k].data⟩:=by unfold ofE;rw[if_pos hse]
   rw[e]
   generalize shaL s.files[k].data=h
   rfl
  | false=>
   refine cf hse (ct hmx ?_)
   refine step _ ?_
   have e:ofE shaL s.files[k]=⟨metaF s.files[k],(s.files[k].data.size:Int),zeros⟩:=by unfold ofE;rw[hse];rfl
   rw[e,zeros_encA]
   rfl
 ·refine cf (by simp;omega) ?_
  have hkk:k=s.files.length:=by omega
  subst hkk
  rw[List.drop_zero,List.take_of_length_le (by simp),List.take_length]
  rfl
theorem all_law (nn:Bool) (l:List Ev) (n1:Bool) (o:List Mo) (hs:∀e∈l,e.ok) (ho:∀x∈o,x.ok):F5.s FUEL (dl nn (l.map Ev.enc)) (dl n1 (o.map Mo.enc))=some (db true):=by
 unfold F5.s
 refine bdS works_spec (cf rfl (bdS (few_spec nn l) ?_))
 cases hf:fewB l with
 | false=>exact cf rfl rfl
 | true=>
  obtain⟨hlen,hl⟩:=few_ok hf hs
  refine ct rfl (bdS (few_specM n1 o) ?_)
  cases hm:fewM o with
  | false=>exact ct rfl rfl
  | true=>
   obtain⟨hlenM,hlM⟩:=few_okM hm ho
   obtain⟨c,hc,hsim⟩:=allB_ref nn l hl (by omega)
   have hbk:BkOk (runB l emptyB 0).1:=run_ok hl empty_ok
   have hS:StOk (runM shaL emptyS o).st:=runFrom_ok emptyS_ok hlM
   have hOf:=ofM_ok hS
   refine cf rfl (bdS (all_spec nn l hl (by omega)) (bdS hc (bdS (run_spec emptyS n1 o emptyS_ok hlM (by omega)) ?_)))
   generalize (runM shaL emptyS o)=rr at *
   generalize (runB l emptyB 0).1=B at *
   generalize (runB l emptyB 0).2.1=e1 at *
   generalize (runB l emptyB 0).2.2=e2 at *
   have hBl:=hbk.len
   have hOl:=hOf.len
   refine bdBS rfl (ct rfl (bdS (ofB_spec B (by omega)) (bdS (sameB_ref (b:={ B with nn:=decide (0<B.es.length) }) ⟨hsim.es,hsim.last,hsim.floor⟩ (by show B.es.length≤1000;omega) (fun x hx=>⟨by have:=(hbk.es x hx).hold;omega,(hbk.es x hx).sum⟩)) (bdBS rfl (ct rfl (ct ?_ (ct ?_ ?_)))))))
   ·show eqI e1 e1=true;simp
   ·show eqI e2 e2=true;simp
   ·refine bdS (ofM_spec rr.st hS) (bdS (ofB_spec { ofM shaL rr.st with nn:=decide (0<rr.st.files.length) } (by show (ofM shaL rr.st).es.length≤1000;omega)) (bdS (x:=rr.st.enc) rfl (bdS (ofM_ref rr.st hS) (bdS (sameB_ref ⟨rfl,rfl,rfl⟩ (by show (ofM shaL rr.st).es.length≤1000;omega) (fun x hx=>⟨by have:=(hOf.es x hx).hold;omega,(hOf.es x hx).sum⟩)) rfl))))
theorem evs_of {d:D} (h:D.has ty d (.slice 58)) (hw:D.wf d):∃(nn:Bool) (l:List Ev),d=dl nn (l.map Ev.enc)∧∀e∈l,e.ok:=by
 obtain⟨nn,ds,rfl,h1,h2⟩:=hass_slice h
 simp only[D.wf] at hw
 obtain⟨l,rfl,_,hl⟩:=hass_rep (f:=Ev.enc) (Q:=fun e:Ev=>e.ok) (fun d h1 h2=>ev_of (fs:=[50,3,9,3,3,56]) (e:=5) rfl rfl h1 h2) h1 (by first | exact hw | exact hw.1 | exact hw.2)
 exact⟨nn,l,rfl,hl⟩
theorem pure5:∀ds,D.hass ty ds [(.slice 58),(.slice 52)]→D.wfs ds→F5.c.run ds=some (.bool true):=by
 intro ds h hw
 obtain⟨d0,_,rfl,h0,h⟩:=hassC h
 obtain⟨d1,_,rfl,h1,h⟩:=hassC h
 obtain rfl:=hass0 h
 simp only[D.wfs] at hw
 obtain⟨nn,l,rfl,hl⟩:=evs_of h0 hw.1
 obtain⟨n1,o,rfl,ho⟩:=mos_of h1 hw.2.1
 exact all_law nn l n1 o hl ho
end Go.AM.SZ
