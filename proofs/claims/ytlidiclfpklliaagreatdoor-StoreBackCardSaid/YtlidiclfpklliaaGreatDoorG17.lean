/- ShaPlain ShaConst ShaRoot ShaAll ShaMix -/
import Derived.Test.YtlidiclfpklliaaGreatDoorG01
import Derived.Test.YtlidiclfpklliaaGreatDoorShelf
import Derived.StillTailTactics
set_option linter.unusedVariables false
set_option maxHeartbeats 1000000
namespace Go.Aq.Sha
def m32:Nat:=4294967296
def rotr (x n:Nat):Nat:=(x >>> n ||| x <<< (32 - n)) % m32
def s0 (x:Nat):Nat:=rotr x 7 ^^^ rotr x 18 ^^^ x >>> 3
def s1 (x:Nat):Nat:=rotr x 17 ^^^ rotr x 19 ^^^ x >>> 10
def S1 (x:Nat):Nat:=rotr x 6 ^^^ rotr x 11 ^^^ rotr x 25
def S0 (x:Nat):Nat:=rotr x 2 ^^^ rotr x 13 ^^^ rotr x 22
def ch (e f g:Nat):Nat:=(e &&& f) ^^^ ((m32 - 1 - e) &&& g)
def maj (a b c:Nat):Nat:=(a &&& b) ^^^ (a &&& c) ^^^ (b &&& c)
def K:List Nat:=[
 0x428a2f98,0x71374491,0xb5c0fbcf,0xe9b5dba5,0x3956c25b,0x59f111f1,0x923f82a4,0xab1c5ed5,
 0xd807aa98,0x12835b01,0x243185be,0x550c7dc3,0x72be5d74,0x80deb1fe,0x9bdc06a7,0xc19bf174,
 0xe49b69c1,0xefbe4786,0x0fc19dc6,0x240ca1cc,0x2de92c6f,0x4a7484aa,0x5cb0a9dc,0x76f988da,
 0x983e5152,0xa831c66d,0xb00327c8,0xbf597fc7,0xc6e00bf3,0xd5a79147,0x06ca6351,0x14292967,
 0x27b70a85,0x2e1b2138,0x4d2c6dfc,0x53380d13,0x650a7354,0x766a0abb,0x81c2c92e,0x92722c85,
 0xa2bfe8a1,0xa81a664b,0xc24b8b70,0xc76c51a3,0xd192e819,0xd6990624,0xf40e3585,0x106aa070,
 0x19a4c116,0x1e376c08,0x2748774c,0x34b0bcb5,0x391c0cb3,0x4ed8aa4a,0x5b9cca4f,0x682e6ff3,
 0x748f82ee,0x78a5636f,0x84c87814,0x8cc70208,0x90befffa,0xa4506ceb,0xbef9a3f7,0xc67178f2]
def H0:List Nat:=[0x6a09e667,0xbb67ae85,0x3c6ef372,0xa54ff53a,0x510e527f,0x9b05688c,0x1f83d9ab,0x5be0cd19]
def word (b:List UInt8) (i:Nat):Nat:=(b.getD i 0).toNat * 16777216+(b.getD (i+1) 0).toNat * 65536+(b.getD (i+2) 0).toNat * 256+(b.getD (i+3) 0).toNat
def nextW (w:List Nat):Nat:=let i:=w.length;(w.getD (i - 16) 0+s0 (w.getD (i - 15) 0)+w.getD (i - 7) 0+s1 (w.getD (i - 2) 0)) % m32
def spread:Nat→List Nat→List Nat
 | 0,w=>w
 | n+1,w=>spread n (w++[nextW w])
def first16 (b:List UInt8) (at_:Nat):List Nat:=(List.range 16).map fun i=>word b (at_+4 * i)
def sched (b:List UInt8) (at_:Nat):List Nat:=spread 48 (first16 b at_)
structure St where
 a:Nat
 b:Nat
 c:Nat
 d:Nat
 e:Nat
 f:Nat
 g:Nat
 h:Nat
def round (s:St) (k w:Nat):St:=
 let t:=(s.h+S1 s.e+ch s.e s.f s.g+k+w) % m32
 let u:=(S0 s.a+maj s.a s.b s.c) % m32
 ⟨(t+u) % m32,s.a,s.b,s.c,(s.d+t) % m32,s.e,s.f,s.g⟩
def rounds (s:St) (w:List Nat):Nat→Nat→St
 | 0,_=>s
 | n+1,i=>rounds (round s (K.getD i 0) (w.getD i 0)) w n (i+1)
def mix (s:St) (b:List UInt8) (at_:Nat):St:=
 let t:=rounds s (sched b at_) 64 0
 ⟨(s.a+t.a) % m32,(s.b+t.b) % m32,(s.c+t.c) % m32,(s.d+t.d) % m32,(s.e+t.e) % m32,(s.f+t.f) % m32,(s.g+t.g) % m32,(s.h+t.h) % m32⟩
def st0:St:=⟨0x6a09e667,0xbb67ae85,0x3c6ef372,0xa54ff53a,0x510e527f,0x9b05688c,0x1f83d9ab,0x5be0cd19⟩
def be (n:Nat):Nat→List UInt8
 | 0=>[]
 | k+1=>UInt8.ofNat (n >>> (8 * k))::be n k
def zeros (n:Nat):Nat:=(119 - n % 64) % 64
def pad (b:List UInt8):List UInt8:=b++[0x80]++List.replicate (zeros b.length) 0++be (8 * b.length) 8
def foldB (f:St→Nat→St):Nat→Nat→St→St
 | 0,_,s=>s
 | n+1,at_,s=>foldB f n (at_+64) (f s at_)
def blocks (m:List UInt8) (n at_:Nat) (s:St):St:=foldB (fun s a=>mix s m a) n at_ s
def out (s:St):List UInt8:=be s.a 4++be s.b 4++be s.c 4++be s.d 4++be s.e 4++be s.f 4++be s.g 4++be s.h 4
def sum (b:List UInt8):List UInt8:=out (blocks (pad b) ((pad b).length / 64) 0 st0)
def hexD (n:Nat):UInt8:=if n<10 then UInt8.ofNat (48+n) else UInt8.ofNat (87+n)
def hex (b:List UInt8):List UInt8:=b.flatMap fun x=>[hexD (x.toNat / 16),hexD (x.toNat % 16)]
def noDiv (n:Nat):Nat→Nat→Bool
 | 0,_=>true
 | f+1,d=>if d * d≤n then (if n % d=0 then false else noDiv n f (d+1)) else true
def prime (n:Nat):Bool:=noDiv n n 2
def aboveN (x p:Nat) (cube:Bool):Bool:=if cube then decide (p * 2^96<x * x * x) else decide (p * 2^64<x * x)
def rootF (p:Nat) (cube:Bool):Nat→Nat→Nat
 | 0,x=>x
 | n+1,x=>rootF p cube n (if aboveN (x ||| 2^n) p cube then x else x ||| 2^n)
def rootN (p:Nat) (cube:Bool):Nat:=rootF p cube 37 0 % 4294967296
def primes:List Nat:=((List.range 310).map (·+2)).filter prime
theorem primes_len:primes.length=64:=by decide+kernel
end Go.Aq.Sha
namespace Go.Proofs.YtlidiclfpklliaaGreatDoor
open Go.RowKit Go.Aq Go.Aq.Sha
theorem prime_any (w:World) (n:Nat) (h2:2≤n) (hn:n≤400):
  Calls Tryz.prog 247 #[.int .i64 n] w fun e w'=>e=.returned (.bool (prime n))∧w=w':=by
 obtain⟨R,hR⟩:∃R,prime n=R:=⟨_,rfl⟩
 rw[hR]
 have HR:=zH hR;clear hR
 go_enter Tryz.func247,Tryz.ntmps247
 go_wp2
 go_loopg [3] (n - 1) (fun f vd wr=>∃(d:Nat),vd=.int .i64 d∧2≤d∧d+f=n+1∧d≤21∧noDiv n (f+1) d=R∧wr=w)
 case atStart=>exact⟨2,rfl,by omega,by omega,by omega,by rw[Nat.sub_add_cancel (by omega)];exact HR.out,rfl⟩
 case round=>
  obtain⟨d,rfl,hd2,hdf,hd21,hR,rfl⟩:=hrel
  have HF:=zH hdf;clear hdf
  have HND:=zH hR;clear hR
  have hdd:d * d≤441:=Nat.mul_le_mul hd21 hd21
  obtain⟨D,hD⟩:∃D,d * d=D:=⟨_,rfl⟩
  have hDi:((d:Int) * (d:Int))=(D:Int):=by rw[←hD];simp
  rw[hD] at hdd
  have e:=HND.out
  unfold noDiv at e
  rw[hD] at e
  have HE:=zH e;clear e
  by_cases h1:D≤n
  ·have t1:decide ((D:Int)≤(n:Int))=true:=by simp;omega
   have hd20:d≤20:=by
    rcases Nat.lt_or_ge 20 d with h | h
    ·have:21 * 21≤d * d:=Nat.mul_le_mul h h
     omega
    ·exact h
   have e:=HE.out
   rw[if_pos h1] at e
   have HE2:=zH e;clear e HE
   by_cases h3:n % d=0
   ·have e:=HE2.out
    rw[if_pos h3] at e
    have HE3:=zH e;clear e HE2
    have t2:(((n:Int) % (d:Int))==0)=true:=by simp;omega
    go_wp2
    go_ret
    refine⟨?_,rfl⟩
    rw[←HE3.out]
    rfl
   ·have e:=HE2.out
    rw[if_neg h3] at e
    have HE3:=zH e;clear e HE2
    have hdn:d≤n:=by have:d * 1≤d * d:=Nat.mul_le_mul_left d (by omega);omega
    have t2:(((n:Int) % (d:Int))==0)=false:=by simp;omega
    go_wp2
    go_roundg (gk - 1)
    case measure=>have:=HF.out;omega
    case rel=>exact⟨d+1,by go_num,by omega,by have:=HF.out;omega,by omega,by rw[Nat.sub_add_cancel (by have:=HF.out;omega)];exact HE3.out,rfl⟩
  ·have t1:decide ((D:Int)≤(n:Int))=false:=by simp;omega
   have e:=HE.out
   rw[if_neg h1] at e
   have HE2:=zH e;clear e HE
   have t9:decide (2≤(n:Int))=true:=by simp;omega
   go_wp2
   go_ret
   refine⟨?_,rfl⟩
   rw[←HE2.out]
   first | rfl | (simp;omega)
end Go.Proofs.YtlidiclfpklliaaGreatDoor
namespace Go.Aq.Sha
theorem above_sq (q p:Nat):decide (p * 2^64<q)=(decide (p<q / 18446744073709551616) || (decide (q / 18446744073709551616=p)&&decide (0<q % 18446744073709551616))):=by
 rw[Bool.eq_iff_iff]
 simp only[decide_eq_true_eq,Bool.or_eq_true,Bool.and_eq_true]
 omega
theorem cube_parts (q x:Nat):q * x / 18446744073709551616=q / 18446744073709551616 * x+q % 18446744073709551616 * x / 18446744073709551616∧q * x % 18446744073709551616=q % 18446744073709551616 * x % 18446744073709551616:=by
 have e:q * x=q % 18446744073709551616 * x+18446744073709551616 * (q / 18446744073709551616 * x):=by
  have h:=Nat.mod_add_div q 18446744073709551616
  calc q * x=(q % 18446744073709551616+18446744073709551616 * (q / 18446744073709551616)) * x:=by rw[h]
   _=_:=by rw[Nat.add_mul,Nat.mul_assoc]
 rw[e,Nat.add_mul_div_left _ _ (by decide),Nat.add_mul_mod_self_left]
 exact⟨Nat.add_comm _ _,rfl⟩
theorem above_sq' {x p H L:Nat} {R:Bool} (hH:x * x / 18446744073709551616=H) (hL:x * x % 18446744073709551616=L) (hR:aboveN x p false=R):R=(decide (p<H) || (decide (H=p)&&decide (0<L))):=by
 have h:aboveN x p false=decide (p * 2^64<x * x):=by unfold aboveN;rw[if_neg (by decide)]
 rw[←hR,←hH,←hL,h,above_sq]
theorem above_cu' {x p H L G M:Nat} {R:Bool} (hH:x * x / 18446744073709551616=H) (hL:x * x % 18446744073709551616=L) (hG:L * x / 18446744073709551616=G) (hM:L * x % 18446744073709551616=M)
  (hR:aboveN x p true=R):R=(decide (p * 4294967296<H * x+G) || (decide (H * x+G=p * 4294967296)&&decide (0<M))):=by
 obtain⟨e1,e2⟩:=cube_parts (x * x) x
 rw[hH,hL,hG] at e1
 rw[hL,hM] at e2
 have h:aboveN x p true=decide (p * 4294967296 * 2^64<x * x * x):=by
  unfold aboveN
  rw[if_pos rfl,show p * 2^96=p * 4294967296 * 2^64 by omega]
 rw[←hR,←e1,←e2,h,above_sq]
theorem cube_lt {x H L G:Nat} (hx:x<137438953472) (hH:x * x / 18446744073709551616=H) (hL:x * x % 18446744073709551616=L) (hG:L * x / 18446744073709551616=G):H * x<140737488355328∧G<137438953472:=by
 have h1:x * x<137438953472 * 137438953472:=Nat.mul_lt_mul_of_lt_of_lt hx hx
 have h2:H<1024:=by omega
 have h0:H * x<1024 * 137438953472:=Nat.mul_lt_mul_of_lt_of_lt h2 hx
 refine⟨by omega,?_⟩
 have h3:L<18446744073709551616:=by omega
 have h4:L * x≤18446744073709551616 * x:=Nat.mul_le_mul_right x (Nat.le_of_lt h3)
 have h5:L * x / 18446744073709551616≤18446744073709551616 * x / 18446744073709551616:=Nat.div_le_div_right h4
 rw[Nat.mul_div_cancel_left _ (by decide)] at h5
 omega
theorem mod64_lt {q L:Nat} (h:q % 18446744073709551616=L):L<18446744073709551616:=by omega
end Go.Aq.Sha
namespace Go.Proofs.YtlidiclfpklliaaGreatDoor
open Go.RowKit Go.Aq Go.Aq.Sha
set_option maxRecDepth 100000 in
theorem above_sq_any (w:World) (x p:Nat) (hx:x<137438953472) (hp:p≤400):
  Calls Tryz.prog 296 #[.int .u64 x,.int .i64 p,.bool false] w fun e w'=>e=.returned (.bool (aboveN x p false))∧w=w':=by
 obtain⟨R,hR⟩:∃R,aboveN x p false=R:=⟨_,rfl⟩
 rw[hR]
 have HR:=zH hR;clear hR
 go_enter Tryz.func296,Tryz.ntmps296
 go_wp2_with fail
 refine (Tryz.bits_Mul64 x x (by omega) (by omega) _).mono ?_
 rintro e w1 ⟨rfl,rfl⟩
 generalize hH:x * x / 18446744073709551616=H
 generalize hL:x * x % 18446744073709551616=L
 have HH:=zH hH;clear hH
 have HL:=zH hL;clear hL
 go_wp2_with fail
 all_goals
  go_ret
  refine⟨?_,rfl⟩
  rw[above_sq' HH.out HL.out HR.out]
  refine ret_bool ?_
  rw[Bool.eq_iff_iff]
  simp
  try omega
set_option maxRecDepth 100000 in
theorem above_cu_any (w:World) (x p:Nat) (hx:x<137438953472) (hp:p≤400):
  Calls Tryz.prog 296 #[.int .u64 x,.int .i64 p,.bool true] w fun e w'=>e=.returned (.bool (aboveN x p true))∧w=w':=by
 obtain⟨R,hR⟩:∃R,aboveN x p true=R:=⟨_,rfl⟩
 rw[hR]
 have HR:=zH hR;clear hR
 go_enter Tryz.func296,Tryz.ntmps296
 go_wp2_with fail
 refine (Tryz.bits_Mul64 x x (by omega) (by omega) _).mono ?_
 rintro e w1 ⟨rfl,rfl⟩
 generalize hH:x * x / 18446744073709551616=H
 generalize hL:x * x % 18446744073709551616=L
 have hL64:=mod64_lt hL
 have HH:=zH hH;clear hH
 have HL:=zH hL;clear hL
 go_wp2_with fail
 refine (Tryz.bits_Mul64 L x hL64 (by omega) _).mono ?_
 rintro e w1 ⟨rfl,rfl⟩
 generalize hG:L * x / 18446744073709551616=G
 generalize hM:L * x % 18446744073709551616=M
 obtain⟨hc1,hc2⟩:=cube_lt hx HH.out HL.out hG
 generalize hQ:H * x=Q at *
 have hQi:(H:Int) * (x:Int)=(Q:Int):=by rw[←hQ];simp
 have HG:=zH hG;clear hG
 have HM:=zH hM;clear hM
 have HQ:=zH hQ;clear hQ
 go_upto_region 7 with (fail)
 generalize hT:(p:Int) * 4294967296=T
 generalize hS:(Q:Int)+(G:Int)=S
 have HT:=zH hT;clear hT
 have HS:=zH hS;clear hS
 clear hL64 hc1 hc2 hQi hx hp
 have e:=above_cu' HH.out HL.out HG.out HM.out HR.out
 rw[HQ.out] at e
 have e2:R=(decide (T<S) || ((S==T)&&decide (0<M))):=by
  rw[e,Bool.eq_iff_iff]
  have hT:=HT.out
  have hS:=HS.out
  simp
  omega
 have HE:=zH e2
 clear e e2 HH HL HG HM HR HQ HT HS
 by_cases h1:T<S
 ·have t1:decide (T<S)=true:=by simpa using h1
  have hR:R=true:=by rw[HE.out,t1];rfl
  subst hR
  clear HE
  as_aux_lemma=>
   go_wp2_with fail
   go_ret
   exact⟨rfl,rfl⟩
 ·have t1:decide (T<S)=false:=by simpa using h1
  by_cases h2:S=T
  ·have t2:(S==T)=true:=by simpa using h2
   have hR:R=decide (0<M):=by rw[HE.out,t1,t2];rfl
   subst hR
   clear HE h1 h2
   as_aux_lemma=>
    go_wp2_with fail
    go_ret
    exact⟨rfl,rfl⟩
  ·have t2:(S==T)=false:=by simpa using h2
   have hR:R=false:=by rw[HE.out,t1,t2];rfl
   subst hR
   clear HE h1 h2
   as_aux_lemma=>
    go_wp2_with fail
    go_ret
    exact⟨rfl,rfl⟩
end Go.Proofs.YtlidiclfpklliaaGreatDoor
namespace Go.Aq.Sha
def fC (ps:List Nat) (i:Nat):Nat:=if i<8 then (if i<ps.length then rootN (ps.getD i 0) false else 0) else (if i - 8<ps.length then rootN (ps.getD (i - 8) 0) true else 0)
def cellsAt (ps:List Nat):List Value:=(List.range 72).map fun i=>.int .u32 (fC ps i)
theorem fC_all:(List.range 72).map (fC primes)=H0++K:=by decide+kernel
def cellsK:List Value:=(H0++K).map fun (n:Nat)=>.int .u32 n
theorem cellsAt_all:cellsAt primes=cellsK:=by
 unfold cellsAt cellsK
 rw[←fC_all,List.map_map]
 rfl
theorem set_range (f:Nat→Value) (n j:Nat) (v:Value):((List.range n).map f).set j v=(List.range n).map fun i=>if i=j then v else f i:=by
 apply List.ext_getElem
 ·simp
 ·intro i h1 h2
  simp only[List.getElem_set,List.getElem_map,List.getElem_range]
  by_cases h:j=i
  ·subst h;simp
  ·rw[if_neg h,if_neg (by omega)]
theorem cells_step2 (ps:List Nat) (p:Nat) (h:ps.length<8):
  ((cellsAt ps).set (8+ps.length) (.int .u32 (rootN p true:Nat))).set ps.length (.int .u32 (rootN p false:Nat))=cellsAt (ps++[p]):=by
 unfold cellsAt
 rw[set_range,set_range]
 refine List.map_congr_left fun i hi=>?_
 simp only[fC,List.length_append,List.length_cons,List.length_nil,List.getD_eq_getElem?_getD,List.getElem?_append]
 by_cases h8:i<8
 ·by_cases hl:i<ps.length
  ·rw[if_neg (by omega),if_neg (by omega),if_pos h8,if_pos hl,if_pos h8,if_pos (by omega),if_pos hl]
  ·by_cases he:i=ps.length
   ·subst he;simp[h8]
   ·rw[if_neg he,if_neg (by omega),if_pos h8,if_neg hl,if_pos h8,if_neg (by omega)]
 ·by_cases hl:i - 8<ps.length
  ·rw[if_neg (by omega),if_neg (by omega),if_neg h8,if_pos hl,if_neg h8,if_pos (by omega),if_pos hl]
  ·by_cases he:i=8+ps.length
   ·subst he;simp[h8]
   ·rw[if_neg (by omega),if_neg he,if_neg h8,if_neg hl,if_neg h8,if_neg (by omega)]
theorem cells_step1 (ps:List Nat) (p:Nat) (h:8≤ps.length):(cellsAt ps).set (8+ps.length) (.int .u32 (rootN p true:Nat))=cellsAt (ps++[p]):=by
 unfold cellsAt
 rw[set_range]
 refine List.map_congr_left fun i hi=>?_
 simp only[fC,List.length_append,List.length_cons,List.length_nil,List.getD_eq_getElem?_getD,List.getElem?_append]
 by_cases h8:i<8
 ·rw[if_neg (by omega),if_pos h8,if_pos (by omega),if_pos h8,if_pos (by omega),if_pos (by omega)]
 ·by_cases hl:i - 8<ps.length
  ·rw[if_neg (by omega),if_neg h8,if_pos hl,if_neg h8,if_pos (by omega),if_pos hl]
  ·by_cases he:i=8+ps.length
   ·subst he;simp[h8]
   ·rw[if_neg he,if_neg h8,if_neg hl,if_neg h8,if_neg (by omega)]
def primesTo (p:Nat):List Nat:=((List.range (p - 2)).map (·+2)).filter prime
theorem primesTo_succ (p:Nat) (h:2≤p):primesTo (p+1)=primesTo p++(if prime p then [p] else []):=by
 unfold primesTo
 rw[show p+1 - 2=(p - 2)+1 by omega,List.range_succ,List.map_append,List.filter_append]
 congr 1
 simp only[List.map_cons,List.map_nil,Nat.sub_add_cancel h]
 by_cases hp:prime p=true
 ·simp[hp]
 ·simp[hp]
theorem primesTo_lt:∀p,p<312→(primesTo p).length<64:=by
 have h:((List.range 312).all fun p=>decide ((primesTo p).length<64))=true:=by decide+kernel
 intro p hp
 have:=List.all_eq_true.1 h p (by simpa using hp)
 simpa using this
theorem primesTo_all:primesTo 312=primes:=rfl
end Go.Aq.Sha
namespace Go.Aq
theorem bits_u64 (a b:Nat) (ha:a<18446744073709551616) (hb:b<18446744073709551616):bits .and .u64 a b=((a &&& b:Nat):Int)∧bits .or .u64 a b=((a ||| b:Nat):Int)∧bits .xor .u64 a b=((a ^^^ b:Nat):Int):=
 bits_nat_full .u64 (fun n h=>by rw[IntKind.wrap_u64];simp only[IntKind.bits] at h;omega) a b ha hb
end Go.Aq
namespace Go.Proofs.YtlidiclfpklliaaGreatDoor
open Go.RowKit Go.Aq Go.Aq.Sha
theorem above_any (w:World) (x p:Nat) (cube:Bool) (hx:x<137438953472) (hp:p≤400):
  Calls Tryz.prog 296 #[.int .u64 x,.int .i64 p,.bool cube] w fun e w'=>e=.returned (.bool (aboveN x p cube))∧w=w':=by
 cases cube
 ·exact above_sq_any w x p hx hp
 ·exact above_cu_any w x p hx hp
theorem root_any (w:World) (p:Nat) (cube:Bool) (hp:p≤400):
  Calls Tryz.prog 248 #[.int .i64 p,.bool cube] w fun e w'=>e=.returned (.int .u32 (rootN p cube:Nat))∧w=w':=by
 obtain⟨R,hR⟩:∃R,rootF p cube 37 0=R:=⟨_,rfl⟩
 have hN:rootN p cube=R % 4294967296:=by unfold rootN;rw[hR]
 rw[hN]
 clear hN
 have HR:=zH hR;clear hR
 go_enter Tryz.func248,Tryz.ntmps248
 go_wp2
 go_loopg [5,6,7] 37 (fun n vx vb _ wr=>∃(x:Nat) (b:Int),vx=.int .u64 x∧vb=.int .i64 b∧b=(n:Int) - 1∧n≤37∧x<137438953472∧rootF p cube n x=R∧wr=w)
 case atStart=>exact⟨0,36,rfl,rfl,by omega,by omega,by omega,HR.out,rfl⟩
 case round=>
  obtain⟨x,b,rfl,rfl,hvb,hn,hx,hF,rfl⟩:=hrel
  by_cases h0:gk=0
  ·have hb1:b= -1:=by omega
   have hxR:x=R:=by rw[h0] at hF;exact hF
   subst hb1 hxR
   clear hF hvb h0 HR
   go_wp2
   go_ret
   exact⟨ret_int (by omega),rfl⟩
  ·obtain⟨k,hk⟩:∃k,gk=k+1:=⟨gk - 1,by omega⟩
   have hbk:b=(k:Int):=by omega
   rw[hk] at hF
   simp only[rootF] at hF
   have hk36:k≤36:=by omega
   subst hbk
   have HK:=zH hk;clear hk hvb h0 hn
   have h2:(2:Nat)^k<137438953472:=by
    have:(2:Nat)^k≤2^36:=Nat.pow_le_pow_right (by decide) (by omega)
    have h36:(2:Nat)^36=68719476736:=by decide
    omega
   have hor:bits .or .u64 (x:Int) (IntKind.u64.wrap (2^k))=((x ||| 2^k:Nat):Int):=by
    have h1:IntKind.u64.wrap (2^k)=((2^k:Nat):Int):=by
     have:(2:Int)^k=((2^k:Nat):Int):=by simp
     rw[this,IntKind.wrap_u64]
     exact Int.emod_eq_of_lt (Int.natCast_nonneg _) (by omega)
    rw[h1]
    exact (bits_u64 x (2^k) (by omega) (by omega)).2.1
   have hYlt:x ||| 2^k<137438953472:=by
    have h37:(137438953472:Nat)=2^37:=by decide
    rw[h37] at hx h2 ⊢
    exact Nat.or_lt_two_pow hx h2
   obtain⟨Y,hY⟩:∃Y,x ||| 2^k=Y:=⟨_,rfl⟩
   rw[hY] at hF hor hYlt
   have HE:=zH hF;clear hF
   clear hY h2
   have s1:decide ((64:Int)≤(k:Int))=false:=by simp;omega
   by_cases hab:aboveN Y p cube=true
   ·have e:=HE.out
    rw[if_pos hab] at e
    have HE2:=zH e;clear e HE
    go_wp2_with fail
    refine (above_any _ Y p cube hYlt hp).mono ?_
    rintro e w1 ⟨rfl,rfl⟩
    rw[hab]
    go_wp2_with fail
    go_roundg k
    case measure=>have:=HK.out;omega
    case rel=>exact⟨x,_,rfl,rfl,by omega,by omega,hx,HE2.out,rfl⟩
   ·have hab':aboveN Y p cube=false:=by simpa using hab
    clear hab
    have e:=HE.out
    rw[if_neg (by rw[hab'];decide)] at e
    have HE2:=zH e;clear e HE
    go_wp2_with fail
    refine (above_any _ Y p cube hYlt hp).mono ?_
    rintro e w1 ⟨rfl,rfl⟩
    rw[hab']
    go_wp2_with fail
    go_roundg k
    case measure=>have:=HK.out;omega
    case rel=>exact⟨Y,_,rfl,rfl,by omega,by omega,hYlt,HE2.out,rfl⟩
set_option maxRecDepth 100000 in
theorem shaall_any (w:World):
  Calls Tryz.prog 188 #[] w fun e w'=>∃B,e=.returned (.pointer (some ⟨B,0,none⟩))∧Blk w' B cellsK.toArray 280∧Chg [] w w'∧w.heap.size≤B:=by
 have hz:∀w,(zeroValue 280).run Tryz.prog w=.ok (.agg (cellsAt []).toArray) w:=fun _=>by kernel_rfl
 go_enter Tryz.func188,Tryz.ntmps188
 go_upto_region 2 with (fail)
 clear hz
 have hB:=Blk.new w (cellsAt []).toArray 280
 have hc:=(Chg.refl [] w).alloc (.cells (cellsAt []).toArray 280)
 have hBl:w.heap.size≤w.heap.size:=Nat.le_refl _
 generalize w.alloc (.cells (cellsAt []).toArray 280)=w1 at *
 obtain⟨B,hBe⟩:∃B,B=w.heap.size:=⟨_,rfl⟩
 rw[←hBe] at hB ⊢
 rw[←hBe] at hBl
 have HBE:=zH hBe;clear hBe hBl
 go_wp2
 go_loopg [2,3] 310 (fun k vn vp wr=>∃(p n:Nat),vn=.int .i64 n∧vp=.int .i64 p∧n=(primesTo p).length∧2≤p∧p+k=312∧Blk wr B (cellsAt (primesTo p)).toArray 280∧Chg [] w wr)
 case atStart=>exact⟨2,0,rfl,rfl,rfl,by omega,by omega,hB,hc⟩
 case round=>
  clear hB hc
  obtain⟨p,n,rfl,rfl,hn,hp2,hpk,hB,hc⟩:=hrel
  have HN:=zH hn;clear hn
  by_cases hlt:p<312
  ·have hn64:n<64:=by have:=HN.out;have:=primesTo_lt p hlt;omega
   have HPK:=zH hpk;clear hpk
   have t1:decide ((n:Int)<64)=true:=by simp;omega
   by_cases hpr:prime p=true
   ·go_wp2_with fail
    refine (prime_any _ p hp2 (by omega)).mono ?_
    rintro e w2 ⟨rfl,rfl⟩
    rw[hpr]
    go_wp2_with fail
    have x0:wr.cell? ⟨B,8+n,none⟩=some (.int .u32 (fC (primesTo p) (8+n):Nat)):=by
     rw[hB.cell];simp[cellsAt,show 8+n<72 by omega]
    have x1:=hB.frozen (8+n)
    have i64:(n:Int)<64:=by omega
    refine wp_region_still_tail 7 (by kernel_rfl) (by kernel_rfl) ?_
    simp only[List.take_succ_cons,List.take_zero,List.drop_succ_cons,List.drop_zero]
    repeat still_step
    still_call ((root_any _ p true (by omega)).mono fun e w' ⟨h1,h2⟩=>⟨h1,h2.symm⟩)
    repeat still_step
    refine wpStill_nil ?_
    change wpList _ _ _ _ _ wr.drew
    go_upto_region 8 with (fail)
    have hB2:=(hB.set (8+n) (.int .u32 (rootN p true:Nat))).drew
    have hc2:=(hc.setCell (p:=⟨B,8+n,none⟩) (by right;have:=HBE.out;simp;omega) (.int .u32 (rootN p true:Nat))).drew
    generalize (wr.setCell ⟨B,8+n,none⟩ (.int .u32 (rootN p true:Nat))).drew=w2 at *
    rw[List.setIfInBounds_toArray] at hB2
    have hpe:primesTo (p+1)=primesTo p++[p]:=by have e:=primesTo_succ p hp2;rw[hpr] at e;exact e
    have hlen:(primesTo (p+1)).length=n+1:=by rw[hpe,List.length_append,←HN.out];rfl
    have HL:=zH hlen
    have HPE:=zH hpe
    clear hlen hpe x0 x1 i64 hB hc t1
    by_cases h8:n<8
    ·have t8:decide ((n:Int)<8)=true:=by simp;omega
     have i8:(n:Int)<8:=by omega
     have y0:∃u,w2.cell? ⟨B,n,none⟩=some u:=by
      rw[hB2.cell]
      exact⟨_,List.getElem?_toArray▸List.getElem?_eq_getElem (by simp[cellsAt];omega)⟩
     obtain⟨u,y0⟩:=y0
     have y1:=hB2.frozen n
     go_upto_region 9 with (fail)
     refine wp_region_still_tail 7 (by kernel_rfl) (by kernel_rfl) ?_
     simp only[List.take_succ_cons,List.take_zero,List.drop_succ_cons,List.drop_zero]
     repeat still_step
     still_call ((root_any _ p false (by omega)).mono fun e w' ⟨h1,h2⟩=>⟨h1,h2.symm⟩)
     repeat still_step
     refine wpStill_nil ?_
     change wpList _ _ _ _ _ w2.drew
     go_wp2_with fail
     go_roundg (gk - 1)
     case measure=>have:=HPK.out;omega
     case rel=>
      have hB3:=(hB2.set n (.int .u32 (rootN p false:Nat))).drew
      have hc3:=(hc2.setCell (p:=⟨B,n,none⟩) (by right;have:=HBE.out;simp;omega) (.int .u32 (rootN p false:Nat))).drew
      rw[List.setIfInBounds_toArray] at hB3
      refine⟨p+1,n+1,by go_num,by go_num,HL.out.symm,by omega,by have:=HPK.out;omega,?_,hc3⟩
      have e:=cells_step2 (primesTo p) p (by rw[←HN.out];exact h8)
      rw[←HN.out,←HPE.out] at e
      rw[←e]
      exact hB3
    ·have t8:decide ((n:Int)<8)=false:=by simp;omega
     go_wp2_with fail
     go_roundg (gk - 1)
     case measure=>have:=HPK.out;omega
     case rel=>
      refine⟨p+1,n+1,by go_num,by go_num,HL.out.symm,by omega,by have:=HPK.out;omega,?_,hc2⟩
      have e:=cells_step1 (primesTo p) p (by rw[←HN.out];omega)
      rw[←HN.out,←HPE.out] at e
      rw[←e]
      exact hB2
   ·have hpr':prime p=false:=by simpa using hpr
    clear hpr
    go_wp2_with fail
    refine (prime_any _ p hp2 (by omega)).mono ?_
    rintro e w2 ⟨rfl,rfl⟩
    rw[hpr']
    go_wp2_with fail
    go_roundg (gk - 1)
    case measure=>have:=HPK.out;omega
    case rel=>
     have e:=primesTo_succ p hp2
     rw[hpr'] at e
     simp only[Bool.false_eq_true,if_false,List.append_nil] at e
     exact⟨p+1,n,rfl,by go_num,by rw[e];exact HN.out,by omega,by have:=HPK.out;omega,by rw[e];exact hB,hc⟩
  ·have hp:p=312:=by omega
   subst hp
   have hn64:n=64:=by rw[HN.out,primesTo_all,primes_len]
   subst hn64
   clear HN
   rw[primesTo_all,cellsAt_all] at hB
   go_wp2
   go_ret
   exact⟨B,rfl,hB,hc,by have:=HBE.out;omega⟩
end Go.Proofs.YtlidiclfpklliaaGreatDoor
namespace Go.Aq.Sha
theorem rotr_lt (x n:Nat):rotr x n<4294967296:=Nat.mod_lt _ (by decide)
theorem rot_count (k:Nat) (h1:1≤k) (h2:k≤31):bits .and .u64 (IntKind.u64.wrap (-(k:Int))) 31=((32 - k:Nat):Int):=by
 have e:IntKind.u64.wrap (-(k:Int))=((18446744073709551616 - k:Nat):Int):=by rw[IntKind.wrap_u64];omega
 rw[e]
 have:=(bits_u64 (18446744073709551616 - k) 31 (by omega) (by decide)).1
 have h31:(18446744073709551616 - k) &&& 31=(18446744073709551616 - k) % 32:=Nat.and_two_pow_sub_one_eq_mod _ 5
 rw[h31] at this
 refine Eq.trans (by rfl) (this.trans ?_)
 congr 1
 omega
theorem rot_or (x k:Nat) (hx:x<4294967296) (h1:1≤k) (h2:k≤31):bits .or .u32 (IntKind.u32.wrap ((x:Int) * 2^(32 - k))) ((x:Int) / 2^k)=((rotr x k:Nat):Int):=by
 have e1:IntKind.u32.wrap ((x:Int) * 2^(32 - k))=((x * 2^(32 - k) % 4294967296:Nat):Int):=by rw[IntKind.wrap_u32];simp
 have e2:(x:Int) / 2^k=((x / 2^k:Nat):Int):=by simp
 have hlt:x / 2^k<4294967296:=Nat.lt_of_le_of_lt (Nat.div_le_self _ _) hx
 rw[e1,e2,(bits_u32 _ _ (Nat.mod_lt _ (by decide)) hlt).2.1]
 congr 1
 unfold rotr m32
 rw[Nat.shiftRight_eq_div_pow,Nat.shiftLeft_eq,Nat.or_comm]
 have hm:(4294967296:Nat)=2^32:=by decide
 rw[hm] at *
 rw[Nat.or_mod_two_pow,Nat.mod_eq_of_lt hlt]
theorem spread_len:∀(n:Nat) (w:List Nat),(spread n w).length=w.length+n
 | 0,w=>rfl
 | n+1,w=>by rw[spread,spread_len n];simp;omega
theorem spread_old:∀(n:Nat) (w:List Nat) (j:Nat),j<w.length→(spread n w)[j]?=w[j]?
 | 0,w,j,h=>rfl
 | n+1,w,j,h=>by rw[spread,spread_old n _ j (by simp;omega),List.getElem?_append_left h]
theorem spread_take (n:Nat) (w:List Nat):(spread n w).take w.length=w:=by
 apply List.ext_getElem?
 intro j
 by_cases h:j<w.length
 ·rw[List.getElem?_take_of_lt h,spread_old n w j h]
 ·rw[List.getElem?_eq_none (by simp;omega),List.getElem?_eq_none (by omega)]
theorem spread_next:∀(n:Nat) (w:List Nat) (j:Nat),w.length≤j→j<w.length+n→(spread n w)[j]?=some (nextW ((spread n w).take j))
 | 0,w,j,h1,h2=>by omega
 | n+1,w,j,h1,h2=>by
  rw[spread]
  by_cases hj:j=w.length
  ·subst hj
   rw[spread_old n _ _ (by simp)]
   have:(spread n (w++[nextW w])).take w.length=w:=by
    have h:=spread_take n (w++[nextW w])
    have h2:=congrArg (List.take w.length) h
    rw[List.take_take,Nat.min_eq_left (by simp)] at h2
    simpa using h2
   rw[this]
   simp
  ·exact spread_next n _ j (by simp;omega) (by simp;omega)
theorem getD_take (l:List Nat) (i j:Nat) (h:j<i):(l.take i).getD j 0=l.getD j 0:=by
 simp[List.getD_eq_getElem?_getD,List.getElem?_take_of_lt h]
theorem sched_len (b:List UInt8) (a:Nat):(sched b a).length=64:=by simp[sched,spread_len,first16]
theorem sched_first (b:List UInt8) (a i:Nat) (h:i<16):(sched b a)[i]?=some (word b (a+4 * i)):=by
 unfold sched
 rw[spread_old _ _ _ (by simp[first16];exact h)]
 simp[first16,h]
theorem sched_next (b:List UInt8) (a i:Nat) (h:16≤i) (h2:i<64):
  (sched b a)[i]?=some (((sched b a).getD (i - 16) 0+s0 ((sched b a).getD (i - 15) 0)+(sched b a).getD (i - 7) 0+s1 ((sched b a).getD (i - 2) 0)) % m32):=by
 have e:=spread_next 48 (first16 b a) i (by simpa[first16] using h) (by simpa[first16] using h2)
 rw[show spread 48 (first16 b a)=sched b a from rfl] at e
 rw[e]
 unfold nextW
 have hl:((sched b a).take i).length=i:=by rw[List.length_take,sched_len];omega
 simp only[hl]
 rw[getD_take _ _ _ (by omega),getD_take _ _ _ (by omega),getD_take _ _ _ (by omega),getD_take _ _ _ (by omega)]
theorem word_lt (b:List UInt8) (i:Nat):word b i<4294967296:=by
 unfold word
 have h0:=(b.getD i 0).toNat_lt
 have h1:=(b.getD (i+1) 0).toNat_lt
 have h2:=(b.getD (i+2) 0).toNat_lt
 have h3:=(b.getD (i+3) 0).toNat_lt
 omega
theorem sched_lt (b:List UInt8) (a i:Nat):(sched b a).getD i 0<4294967296:=by
 rw[List.getD_eq_getElem?_getD]
 by_cases h:i<16
 ·rw[sched_first b a i h];exact word_lt _ _
 ·by_cases h2:i<64
  ·rw[sched_next b a i (by omega) h2];exact Nat.mod_lt _ (by decide)
  ·rw[List.getElem?_eq_none (by rw[sched_len];omega)];decide
def Ws (l:List Nat):List Value:=l.map fun n=>.int .u32 (n:Nat)
theorem Ws_length (l:List Nat):(Ws l).length=l.length:=by simp[Ws]
theorem Ws_get (l:List Nat) (j:Nat) (h:j<l.length):(Ws l)[j]?=some (.int .u32 (l.getD j 0:Nat)):=by simp[Ws,h,List.getD_eq_getElem?_getD]
theorem Ws_set (l:List Nat) (j n:Nat):(Ws l).set j (.int .u32 (n:Nat))=Ws (l.set j n):=by simp[Ws,List.map_set]
def prt (l:List Nat) (n i:Nat):List Nat:=l.take i++List.replicate (n - i) 0
theorem prt_length (l:List Nat) (n i:Nat) (h:i≤l.length) (hn:l.length=n):(prt l n i).length=n:=by simp[prt];omega
theorem prt_get (l:List Nat) (n i j:Nat) (h:i≤l.length) (hj:j<i):(prt l n i).getD j 0=l.getD j 0:=by
 unfold prt
 rw[List.getD_eq_getElem?_getD,List.getElem?_append_left (by simp;omega),List.getElem?_take_of_lt hj,List.getD_eq_getElem?_getD]
theorem prt_set (l:List Nat) (n i x:Nat) (hn:l.length=n) (h:i<n) (hx:l[i]?=some x):(prt l n i).set i x=prt l n (i+1):=by
 unfold prt
 have hl:(l.take i).length=i:=by simp;omega
 rw[List.set_append_right _ _ (by omega),hl,Nat.sub_self,show n - i=(n - (i+1))+1 by omega,List.replicate_succ,List.set_cons_zero]
 obtain⟨h1,h2⟩:=List.getElem?_eq_some_iff.1 hx
 rw[List.take_succ_eq_append_getElem h1,h2]
 simp
theorem prt_zero (l:List Nat) (n:Nat):prt l n 0=List.replicate n 0:=by simp[prt]
theorem prt_all (l:List Nat) (n:Nat) (h:l.length=n):prt l n n=l:=by simp[prt,←h]
end Go.Aq.Sha
namespace Go.Proofs.YtlidiclfpklliaaGreatDoor
open Go.RowKit Go.Aq Go.Aq.Sha
set_option maxRecDepth 100000 in
theorem rot_nat (w:World) (x k:Nat) (hx:x<4294967296) (h1:1≤k) (h2:k≤31):Calls Tryz.prog 250 #[.int .u32 x,.int .i64 (-(k:Int))] w fun e w'=>e=.returned (.int .u32 (rotr x k:Nat))∧w=w':=by
 have hs:=rot_count k h1 h2
 obtain⟨s,hsk⟩:∃s,32 - k=s:=⟨_,rfl⟩
 have HO:=zH (rot_or x k hx h1 h2)
 rw[hsk] at hs HO
 have hd:(32:Int) - (s:Int)=(k:Int):=by omega
 have hsb:s≤31∧1≤s:=by omega
 obtain⟨hs1,hs2⟩:=hsb
 have HSK:=zH hsk;clear hsk
 go_enter Tryz.func250,Tryz.ntmps250
 go_wp2
 go_ret
 exact⟨ret_int HO.out,rfl⟩
set_option maxRecDepth 100000 in
theorem rotL (w:World) (x:Nat) (c:Int) (k:Nat) (hc:c= -(k:Int)) (hx:x<4294967296) (h1:1≤k) (h2:k≤31):Calls Tryz.prog 250 #[.int .u32 x,.int .i64 c] w fun e w'=>e=.returned (.int .u32 (rotr x k:Nat))∧w=w':=by
 subst hc
 exact rot_nat w x k hx h1 h2
set_option maxRecDepth 100000 in
theorem readBigI (w:World) (v:Value) (n at_ wd:Nat) (c:Int) (hc:c=(at_:Nat)) (b:List UInt8) (hv:Sees w 1 v n (Bs b)) (h1:1≤wd) (h6:wd≤6) (ha:at_+wd≤n) (hn:n≤4611686018427387904) {x:Nat} (hx:beVal ((b.drop at_).take wd)=x):
  Calls Tryz.prog 99 #[v,.int .i64 c,.int .i64 wd] w fun e w'=>e=.returned (.tuple #[.int .i64 x,.int .i64 0])∧w=w':=by
 subst hc hx
 exact readBig_ok w v n at_ wd b hv h1 h6 ha hn
theorem word_be (b:List UInt8) (i:Nat) (h:i+4≤b.length):beVal ((b.drop i).take 4)=word b i:=by
 have e:(b.drop i).take 4=[b[i]'(by omega),b[i+1]'(by omega),b[i+2]'(by omega),b[i+3]'(by omega)]:=by
  apply List.ext_getElem
  ·simp;omega
  ·intro j h1 h2
   simp only[List.length_cons,List.length_nil] at h2
   simp only[List.getElem_take,List.getElem_drop]
   match j,h2 with
   | 0,_=>rfl
   | 1,_=>rfl
   | 2,_=>rfl
   | 3,_=>rfl
 rw[e]
 unfold word beVal
 simp only[List.foldl_cons,List.foldl_nil,List.getD_eq_getElem?_getD]
 rw[List.getElem?_eq_getElem (by omega),List.getElem?_eq_getElem (by omega),List.getElem?_eq_getElem (by omega),List.getElem?_eq_getElem (by omega)]
 simp only[Option.getD_some]
 omega
theorem x32 (a b:Nat) (ha:a<4294967296) (hb:b<4294967296):∃c:Nat,c<4294967296∧bits .xor .u32 (a:Int) (b:Int)=(c:Int)∧Hid (c=a ^^^ b):=
 ⟨a ^^^ b,by have hm:(4294967296:Nat)=2^32:=(by decide);rw[hm] at *;exact Nat.xor_lt_two_pow ha hb,(bits_u32 a b ha hb).2.2,zH rfl⟩
theorem a32 (a b:Nat) (ha:a<4294967296) (hb:b<4294967296):∃c:Nat,c<4294967296∧bits .and .u32 (a:Int) (b:Int)=(c:Int)∧Hid (c=a &&& b):=
 ⟨a &&& b,by have hm:(4294967296:Nat)=2^32:=(by decide);rw[hm] at *;exact Nat.and_lt_two_pow a hb,(bits_u32 a b ha hb).1,zH rfl⟩
set_option maxRecDepth 100000 in
theorem schedule_any (w:World) (v:Value) (b:List UInt8) (hv:Sees w 1 v 64 (Bs b)):
  Calls Tryz.prog 249 #[v] w fun e w'=>e=.returned (.agg (Ws (sched b 0)).toArray)∧Chg [] w w':=by
 have hz:∀w,(zeroValue 278).run Tryz.prog w=.ok (.agg (Ws (prt [] 64 0)).toArray) w:=fun _=>by kernel_rfl
 have hbl:b.length=64:=by have:=hv.len;rw[Bs_length] at this;omega
 have HBL:=zH hbl;clear hbl
 have e0:prt [] 64 0=prt (sched b 0) 64 0:=by rw[prt_zero,prt_zero]
 rw[e0] at hz
 clear e0
 have HF:=zH (sched_first b 0)
 have HX:=zH (sched_next b 0)
 have HWL:=zH (sched_len b 0)
 have HLT:=zH (sched_lt b 0)
 generalize sched b 0=W at *
 go_enter Tryz.func249,Tryz.ntmps249
 go_upto_region 2 with (fail)
 clear hz
 have hb0:=(Blk.new w (Ws (prt W 64 0)).toArray 278).alloc (.cells (Ws (prt W 64 0)).toArray 278)
 have hb1:=Blk.new_at (w.alloc (.cells (Ws (prt W 64 0)).toArray 278)) (Ws (prt W 64 0)).toArray 278 (k:=w.heap.size+1) (by simp)
 have hc:=((Chg.refl [] w).alloc (.cells (Ws (prt W 64 0)).toArray 278)).alloc (.cells (Ws (prt W 64 0)).toArray 278)
 generalize (w.alloc (.cells (Ws (prt W 64 0)).toArray 278)).alloc (.cells (Ws (prt W 64 0)).toArray 278)=w1 at *
 obtain⟨B0,hB0⟩:∃B,B=w.heap.size:=⟨_,rfl⟩
 obtain⟨B,hB⟩:∃B,B=w.heap.size+1:=⟨_,rfl⟩
 rw[←hB] at hb1 ⊢
 rw[←hB0] at hb0 ⊢
 have HB0:=zH hB0;clear hB0
 have HB:=zH hB;clear hB
 have hzs:(Ws (prt W 64 0)).toArray.size=(Ws W).toArray.size:=by rw[List.size_toArray,Ws_length,List.size_toArray,Ws_length,HWL.out,prt_zero,List.length_replicate]
 have HZS:=zH hzs;clear hzs
 generalize prt W 64 0=Z at hb0 HZS
 go_wp2_with fail
 go_loopg [11] 64 (fun k vi wr=>∃(i:Nat),vi=.int .i64 i∧i+k=64∧Blk wr B (Ws (prt W 64 i)).toArray 278∧Blk wr B0 (Ws Z).toArray 278∧Chg [] w wr)
 case atStart=>exact⟨0,rfl,by omega,hb1,hb0,hc⟩
 case round=>
  clear hb0 hb1 hc
  obtain⟨i,rfl,hik,hb1,hb0,hc⟩:=hrel
  by_cases hlt:i<64
  ·have t64:decide ((i:Int)<64)=true:=by simp;omega
   have i64:(i:Int)<64:=by omega
   have HIK:=zH hik;clear hik
   have hlen:(prt W 64 i).length=64:=prt_length W 64 i (by rw[HWL.out];omega) HWL.out
   have f0:=hb1.frozen i
   have x0:∃u,wr.cell? ⟨B,i,none⟩=some u:=by
    rw[hb1.cell]
    exact⟨_,List.getElem?_toArray▸List.getElem?_eq_getElem (by rw[Ws_length,hlen];omega)⟩
   obtain⟨u,x0⟩:=x0
   by_cases h16:i<16
   ·have t16:decide ((i:Int)<16)=true:=by simp;omega
    have hwd:=HF.out i h16
    have hwl:=word_lt b (0+4 * i)
    rw[Nat.zero_add] at hwd hwl
    have hst:=prt_set W 64 i _ HWL.out hlt hwd
    have hbe:=word_be b (4 * i) (by have:=HBL.out;omega)
    generalize word b (4 * i)=x at *
    have HBE:=zH hbe
    have HST:=zH hst
    clear hwd hst hbe hlen
    go_wp2_with fail
    refine (readBigI wr v 64 (4 * i) 4 _ (by omega) b (hv.chg0 hc) (by omega) (by omega) (by omega) (by omega) HBE.out).mono ?_
    rintro e w2 ⟨rfl,rfl⟩
    go_wp2_with fail
    go_roundg (gk - 1)
    case measure=>have:=HIK.out;omega
    case rel=>
     have hb2:=hb1.set i (.int .u32 (x:Nat))
     rw[List.setIfInBounds_toArray,Ws_set,HST.out] at hb2
     refine⟨i+1,by go_num,by have:=HIK.out;omega,hb2,hb0.set_ne (by have:=HB.out;have:=HB0.out;simp;omega) _,hc.setCell (by right;have:=HB.out;simp;omega) _⟩
   ·have t16:decide ((i:Int)<16)=false:=by simp;omega
    have hnx:=HX.out i (by omega) hlt
    have hst:=prt_set W 64 i _ HWL.out hlt hnx
    have cf:∀w':World,Blk w' B (Ws (prt W 64 i)).toArray 278→w'.cell? ⟨B,i - 15,none⟩=some (.int .u32 (W.getD (i - 15) 0:Nat))∧w'.cell? ⟨B,i - 2,none⟩=some (.int .u32 (W.getD (i - 2) 0:Nat))∧
      w'.cell? ⟨B,i - 16,none⟩=some (.int .u32 (W.getD (i - 16) 0:Nat))∧w'.cell? ⟨B,i - 7,none⟩=some (.int .u32 (W.getD (i - 7) 0:Nat))∧∃u,w'.cell? ⟨B,i,none⟩=some u:=by
     intro w' hb
     refine⟨?_,?_,?_,?_,?_⟩
     iterate 4 rw[hb.cell,List.getElem?_toArray,Ws_get _ _ (by omega),prt_get W 64 i _ (by rw[HWL.out];omega) (by omega)]
     rw[hb.cell]
     exact⟨_,List.getElem?_toArray▸List.getElem?_eq_getElem (by rw[Ws_length,hlen];omega)⟩
    have l15:=HLT.out (i - 15)
    have l2:=HLT.out (i - 2)
    have l16:=HLT.out (i - 16)
    have l7:=HLT.out (i - 7)
    generalize W.getD (i - 15) 0=a15 at *
    generalize W.getD (i - 2) 0=a2 at *
    generalize W.getD (i - 16) 0=a16 at *
    generalize W.getD (i - 7) 0=a7 at *
    have HST:=zH hst
    have CF:=zH cf
    clear hst hnx hlen cf x0
    obtain⟨c15,c2,c16,c7,u',x0⟩:=CF.out wr hb1
    go_wp2_with fail
    go_quiet (fail)
    have hb1':Blk (wr.drewN nq) B (Ws (prt W 64 i)).toArray 278:=hb1
    have hb0':Blk (wr.drewN nq) B0 (Ws Z).toArray 278:=hb0
    have hc':=hc.drewN nq
    clear c15 c2 c16 c7 x0 f0 hb1 hb0 hc
    generalize wr.drewN nq=w2 at *
    clear wr
    obtain⟨p7,b7,e7⟩:∃p,p<4294967296∧rotr a15 7=p:=⟨_,rotr_lt _ _,rfl⟩
    obtain⟨p18,b18,e18⟩:∃p,p<4294967296∧rotr a15 18=p:=⟨_,rotr_lt _ _,rfl⟩
    obtain⟨p17,b17,e17⟩:∃p,p<4294967296∧rotr a2 17=p:=⟨_,rotr_lt _ _,rfl⟩
    obtain⟨p19,b19,e19⟩:∃p,p<4294967296∧rotr a2 19=p:=⟨_,rotr_lt _ _,rfl⟩
    have hE:=And.intro (And.intro e7 e18) (And.intro e17 e19)
    have HE:=zH hE
    obtain⟨q3,bq3,hq3,eq3⟩:∃q:Nat,q<4294967296∧(a15:Int) / 8=(q:Int)∧Hid (q=a15 >>> 3):=⟨a15 / 8,by omega,by simp,zH (by rw[Nat.shiftRight_eq_div_pow])⟩
    obtain⟨q10,bq10,hq10,eq10⟩:∃q:Nat,q<4294967296∧(a2:Int) / 1024=(q:Int)∧Hid (q=a2 >>> 10):=⟨a2 / 1024,by omega,by simp,zH (by rw[Nat.shiftRight_eq_div_pow])⟩
    obtain⟨y1,by1,hy1,ey1⟩:=x32 p7 p18 b7 b18
    obtain⟨y2,by2,hy2,ey2⟩:=x32 y1 q3 by1 bq3
    obtain⟨z1,bz1,hz1,ez1⟩:=x32 p17 p19 b17 b19
    obtain⟨z2,bz2,hz2,ez2⟩:=x32 z1 q10 bz1 bq10
    have r7:=rotL w2 a15 (-7) 7 (by decide) l15 (by decide) (by decide)
    have r18:=rotL w2 a15 (-18) 18 (by decide) l15 (by decide) (by decide)
    have r17:=rotL w2 a2 (-17) 17 (by decide) l2 (by decide) (by decide)
    have r19:=rotL w2 a2 (-19) 19 (by decide) l2 (by decide) (by decide)
    rw[e7] at r7
    rw[e18] at r18
    rw[e17] at r17
    rw[e19] at r19
    clear e7 e18 e17 e19 hE
    have R7:=zH r7
    have R18:=zH r18
    have R17:=zH r17
    have R19:=zH r19
    clear r7 r18 r17 r19
    go_wp2_with fail
    refine R7.out.mono ?_
    rintro e w3 ⟨rfl,rfl⟩
    go_wp2_with fail
    refine R18.out.mono ?_
    rintro e w3 ⟨rfl,rfl⟩
    go_wp2_with fail
    refine R17.out.mono ?_
    rintro e w3 ⟨rfl,rfl⟩
    go_wp2_with fail
    refine R19.out.mono ?_
    rintro e w3 ⟨rfl,rfl⟩
    obtain⟨c15,c2,c16,c7,u',x0⟩:=CF.out w2 hb1'
    have f0:=hb1'.frozen i
    have hy:y2=s0 a15:=by unfold s0;rw[ey2.out,ey1.out,eq3.out,HE.out.1.1,HE.out.1.2]
    have hzz:z2=s1 a2:=by unfold s1;rw[ez2.out,ez1.out,eq10.out,HE.out.2.1,HE.out.2.2]
    have hb2:=(hb1'.set i (.int .u32 (((a16+y2+a7+z2) % 4294967296:Nat):Int))).drew
    have hb02:=(hb0'.set_ne (a:=⟨B,i,none⟩) (by have:=HB.out;have:=HB0.out;simp;omega) (.int .u32 (((a16+y2+a7+z2) % 4294967296:Nat):Int))).drew
    have hc2:=(hc'.setCell (p:=⟨B,i,none⟩) (by right;have:=HB.out;simp;omega) (.int .u32 (((a16+y2+a7+z2) % 4294967296:Nat):Int))).drew
    have e4:((((a16+y2+a7+z2) % 4294967296:Nat):Int))=((a16:Int)+y2+a7+z2) % 4294967296:=by simp
    rw[List.setIfInBounds_toArray,Ws_set,show (4294967296:Nat)=m32 from rfl,hy,hzz,HST.out] at hb2
    rw[show (4294967296:Nat)=m32 from rfl,hy,hzz] at hb02 hc2 e4
    have HY:=zH hy
    have HZ:=zH hzz
    rw[e4] at hb2 hb02 hc2
    rw[←hy,←hzz] at hb2 hb02 hc2
    clear hy hzz e4
    go_wp2_with fail
    go_region
    generalize (w2.setCell ⟨B,i,none⟩ (.int .u32 (((a16:Int)+y2+a7+z2) % 4294967296))).drew=w4 at *
    go_wp2_with fail
    go_roundg (gk - 1)
    case measure=>have:=HIK.out;omega
    case rel=>exact⟨i+1,by go_num,by have:=HIK.out;omega,hb2,hb02,hc2⟩
  ·have hi:i=64:=by omega
   subst hi
   rw[prt_all W 64 HWL.out] at hb1
   clear HF HX HLT
   have a64:ArrTy Tryz.prog 278 (Ws W).toArray.size:=⟨⟨_,Tryz.underlying278,rfl⟩,by rw[List.size_toArray,Ws_length,HWL.out];kernel_rfl⟩
   have hZ:(Ws Z).toArray.size=(Ws W).toArray.size:=HZS.out
   have hW1:∀v∈(Ws W).toArray.toList,v.oneCell'=true:=by
    intro v hv
    simp only[Ws,List.mem_map] at hv
    obtain⟨n,-,rfl⟩:=hv
    rfl
   go_wp2_with (first
    | (with_reducible refine wpList_ldA rfl 278 _ rfl hb1 a64 rfl ?_)
    | (with_reducible refine wpList_stA rfl 278 _ _ rfl hb0 a64 hZ hW1 rfl rfl ?_;intro w5 hb5 hc5 hs5))
   refine bodyPost_ret (results_A rfl _ _ hb5 a64 rfl) rfl ⟨rfl,?_⟩
   exact hc.trans hc5 (by simp;have:=HB0.out;omega)
end Go.Proofs.YtlidiclfpklliaaGreatDoor
