/- WordB WordC WordD -/
import Derived.Test.YtlbdklaggalgfaaGreatDoorG33
set_option linter.unusedVariables false
set_option maxHeartbeats 2000000
namespace Go.Aq.Wd
theorem place_take (rs:List Nat) (j:Nat):(encL rs).take (encL (rs.take j)).length=encL (rs.take j):=by
 conv=>lhs;arg 2;rw[←List.take_append_drop j rs,encL_append]
 exact List.take_left
theorem place_drop (rs:List Nat) (j:Nat):(encL rs).drop (encL (rs.take j)).length=encL (rs.drop j):=by
 conv=>lhs;arg 2;rw[←List.take_append_drop j rs,encL_append]
 exact List.drop_left
theorem place_lt (rs:List Nat) (j:Nat) (hj:j≤rs.length):(encL (rs.take j)).length<(encL rs).length↔j<rs.length:=by
 have h:(encL rs).length=(encL (rs.take j)).length+(encL (rs.drop j)).length:=by rw[←List.length_append,←encL_append,List.take_append_drop]
 constructor
 ·intro hl;by_cases h2:j<rs.length;·exact h2
  ·have e0:(encL ([]:List Nat)).length=0:=rfl;rw[List.drop_eq_nil_of_le (by omega),e0] at h;omega
 ·intro hl;rw[List.drop_eq_getElem_cons hl,encL_cons,List.length_append] at h;have:=enc1_len rs[j];omega
theorem place_step (rs:List Nat) (ok:∀c∈rs,okR c) (j:Nat) (hj:j<rs.length):
  dec ((encL rs).drop (encL (rs.take j)).length)=(rs[j],(enc1 rs[j]).length)∧(encL (rs.take (j+1))).length=(encL (rs.take j)).length+(enc1 rs[j]).length:=by
 refine⟨?_,?_⟩
 ·rw[place_drop,List.drop_eq_getElem_cons hj,encL_cons];exact dec_enc _ (ok _ (List.getElem_mem hj)) _
 ·rw[List.take_succ_eq_append_getElem hj,encL_append,List.length_append];simp[encL]
theorem okR_le {c:Nat} (h:okR c):c≤2000000:=by unfold okR at h;omega
end Go.Aq.Wd
namespace Go.Proofs.YtlbdklaggalgfaaGreatDoor
open Go.RowKit Go.Aq Go.Aq.Wd
end Go.Proofs.YtlbdklaggalgfaaGreatDoor
namespace Go.Aq.Wd
theorem Pre_not {l:List UInt8} {pos:Nat} {pre:List Nat} (h:sigs l=(sigs (l.drop pos)).map (pre++·)) (hp:l.drop pos≠[]) (hb:letter (dec (l.drop pos)).1=false):nameL l=false:=by
 unfold nameL;rw[h,sigs_step _ hp];cases hbd:bad (dec (l.drop pos)) with
 | true=>simp
 | false=>
  simp only[Bool.false_eq_true,if_false];cases sigs ((l.drop pos).drop (dec (l.drop pos)).2) with
  | none=>rfl
  | some t=>
   simp only[Option.map_some];have:(pre++(dec (l.drop pos)).1::t).all letter=false:=by
    rw[List.all_eq_false];exact⟨(dec (l.drop pos)).1,by simp,by rw[hb];simp⟩
   simp only[nameR,this,Bool.and_false,Bool.false_and]
theorem letter_bad (d:Nat×Nat) (h:letter d.1=true):bad d=false:=by
 refine not_bad d.1 d.2 ?_;rintro⟨h1,-⟩;rw[h1] at h;revert h;decide
theorem headD_get (l:List UInt8) (h:0<l.length):l.headD 0=l[0]:=by cases l;(simp at h);rfl
theorem lastD_get (l:List UInt8) (h:l.length - 1<l.length):l.getLastD 0=l[l.length - 1]:=by
 rw[List.getLastD_eq_getLast?,List.getLast?_eq_getElem?,List.getElem?_eq_getElem h];rfl
theorem name_tail (l:List UInt8) (rs:List Nat) (hs:sigs l=some rs) (h1:1≤rs.length) (h2:rs.length≤40) (hall:rs.all letter=true):
  has2 l=dbl rs∧0<l.length∧(dbl rs=true→nameL l=false)∧
  (dbl rs=false→nameL l=(!headBad (l.headD 0).toNat&&!lastBad (l.getLastD 0).toNat)):=by
 obtain⟨he,ok⟩:=sigs_enc hs;have hne:rs≠[]:=by rintro rfl;simp at h1
 have hlen:0<l.length:=by
  rw[he];cases rs with
  | nil=>exact absurd rfl hne
  | cons c t=>rw[encL_cons,List.length_append];have:=enc1_len c;omega
 have hh:∀k,k<128→0<k→((l.headD 0).toNat=k↔rs.headD 0=k):=fun k hk hk0=>by
  rw[←head_encL rs ok k hk hk0,←he];constructor;·intro e;exact (u8e _ _ e).symm
  ·intro e;rw[e,u8n k (by omega)]
 have hl:∀k,k<128→0<k→((l.getLastD 0).toNat=k↔rs.getLastD 0=k):=fun k hk hk0=>by
  rw[←last_encL rs hne ok k hk hk0,←he];constructor;·intro e;exact (u8e _ _ e).symm
  ·intro e;rw[e,u8n k (by omega)]
 refine⟨by rw[←has2_encL rs ok,←he],hlen,fun hd=>?_,fun hd=>?_⟩;·rw[nameL_of hs];simp only[nameR,hd,Bool.not_true,Bool.and_false,Bool.false_and]
 ·rw[nameL_of hs];have e1:headBad (l.headD 0).toNat=headBad (rs.headD 0):=by
   rw[Bool.eq_iff_iff];simp only[headBad,Bool.or_eq_true,beq_iff_eq];rw[hh 45 (by decide) (by decide),hh 46 (by decide) (by decide),hh 47 (by decide) (by decide)]
  have e2:lastBad (l.getLastD 0).toNat=lastBad (rs.getLastD 0):=by
   rw[Bool.eq_iff_iff];simp only[lastBad,Bool.or_eq_true,beq_iff_eq];rw[hl 46 (by decide) (by decide),hl 47 (by decide) (by decide)]
  rw[e1,e2];simp only[nameR,hd,hall,h1,h2];simp
end Go.Aq.Wd
namespace Go.Proofs.YtlbdklaggalgfaaGreatDoor
open Go.RowKit Go.Aq Go.Aq.Wd
theorem idxS (w:World) (s:List UInt8) (j:Nat) (h:j<s.length):(Instr.index 9 (.string (str s)) (.int .i64 (j:Int))).run Tryz.prog w=.ok (.int .u8 ((s[j]'h).toNat:Int)) w:=by
 have hsz:=str_size s;rw[run_index_string w 9 (str s) .i64 j Tryz.underlying9,dif_pos ⟨by omega,by omega⟩];have e:(str s)[(j:Int).toNat]'(by omega)=s[j]'h:=by simp[str,ByteArray.getElem_eq_getElem_data]
 rw[e]
theorem contains2 (l:List UInt8) (w:World) (hT:Tabs w) (hl:l.length≤1000000000):
  Calls Tryz.prog 141 #[.string (str l),.string ⟨#[47,47]⟩] w fun e w'=>e=.returned (.bool (has2 l))∧w'=w:=by
 obtain⟨-,⟨m,hm⟩,-⟩:=hT;exact Tryz.strings_Contains (str l) (str [47,47]) m w (by rw[str_size];omega) hm
theorem name_any (l:List UInt8) (w:World) (hT:Tabs w) (hl:l.length≤1000000000):
  Calls Tryz.prog 82 #[.string (str l)] w fun e w'=>e=.returned (.bool (nameL l))∧Chg [] w w':=by
 have hsz:=str_size l;obtain⟨K,hK⟩:∃K,w.heap.size=K:=⟨_,rfl⟩;go_enter Tryz.func82,Tryz.ntmps82;go_wp2_with fail;go_loopg [3] l.length (fun k vn wr=>∃(pos:Nat) (pre:List Nat),vn=.int .i64 pre.length∧pos+k=l.length∧pre.length≤pos∧wr.heap[K]?=some (.stringIter (str l) pos)∧Chg [] w wr∧Pre l pos pre∧pre.all letter=true);case atStart=>
  refine⟨0,[],rfl,by omega,by simp,?_,(Chg.refl _ _).range _ _,Pre.zero l,rfl⟩;rw[←hK];exact World.iter_heap w (str l) 0
 case round=>
  obtain⟨pos,pre,rfl,hpk,hpl,hit,hc,hpre,hall⟩:=hrel;have hpb:pre.length≤1000000000:=by omega
  have hpb':(pre.length:Int)≤1000000000:=by omega
  by_cases hp:pos<l.length
  ·have hnx:=fun ty=>next_at l wr K pos hit hp ty
   have hfit:=dec_fits l pos hp;have hdp:=dec_pos (l.drop pos);have hd1:=dec_fst (l.drop pos);have hcn:=hc.iterAt (k:=K) (.inr (by omega)) (str l) (pos+(dec (l.drop pos)).2);have hitn:=Lib.iterAt_heap wr K (str l) pos (pos+(dec (l.drop pos)).2) hit;have hst:=hpre.step hp;have hno:=Pre_not hpre (drop_ne l pos hp);generalize dec (l.drop pos)=d at *;obtain⟨c,n⟩:=d;simp only at *;generalize wr.iterAt K (str l) (pos+n)=w1 at *;have HST:=zH hst;have HNO:=zH hno;have HP:=zB hpk hpl hall;clear hst hno hpre hit hc hpk hpl hall;by_cases hlt:letter c=true
   ·have hg:=HST.out (letter_bad (c,n) hlt);go_wp2_with fail;refine (letter_any c (by omega) w1).mono ?_;rintro e w2 ⟨rfl,rfl⟩;rw[hlt];go_wp2_with fail;go_roundg (gk - n);case measure=>have:=HP.out.1;omega
    case rel=>exact⟨pos+n,pre++[c],by simp,by have:=HP.out.1;omega,by have:=HP.out.2.1;simp;omega,hitn,hcn,hg,by rw[List.all_append,HP.out.2.2];simp[hlt]⟩
   ·have hlt':letter c=false:=by simpa using hlt
    go_wp2_with fail;refine (letter_any c (by omega) w1).mono ?_;rintro e w2 ⟨rfl,rfl⟩;rw[hlt'];go_wp2_with fail;go_ret;exact⟨by rw[HNO.out hlt'];rfl,hcn⟩
  ·have hnx:=fun ty=>next_end l wr K pos hit hp ty
   have hs:=hpre.all hp;have hnt:=name_tail l pre hs;have hnm:=nameL_of hs;have HNT:=zH hnt;have HNM:=zH hnm;have HALL:=zH hall;have hTr:=hT.chg hc;clear hpre hall hs hnt hnm;by_cases h1:pre.length<1
   ·have t1:decide ((pre.length:Int)<1)=true:=by simp;omega
    have t1':decide (pre.length<1)=true:=decide_eq_true (by omega);have h0:pre.length=0:=by omega
    have hf:nameL l=false:=by rw[HNM.out];simp[nameR,h0]
    have HF:=zH hf;clear hf;go_wp2_with fail;go_ret;exact⟨by rw[HF.out];rfl,hc⟩
   ·have t1:decide ((pre.length:Int)<1)=false:=by simp;omega
    have t1':decide (pre.length<1)=false:=decide_eq_false (by omega);by_cases h2:40<pre.length
    ·have t2:decide (40<(pre.length:Int))=true:=by simp;omega
     have t2':decide (40<pre.length)=true:=by simp;omega
     have h0:¬pre.length≤40:=by omega
     have hf:nameL l=false:=by rw[HNM.out];simp[nameR,h0]
     have HF:=zH hf;clear hf;go_wp2_with fail;go_ret;exact⟨by rw[HF.out];rfl,hc⟩
    ·have t2:decide (40<(pre.length:Int))=false:=by simp;omega
     have t2':decide (40<pre.length)=false:=by simp;omega
     have HC2:=contains2 l wr hTr hl;obtain⟨n1,n2,n3,n4⟩:=HNT.out (by omega) (by omega) HALL.out;have HN:=zA n3 n4;clear n3 n4 HNT HNM h1 h2;cases hd:dbl pre with
     | true=>
      have hf:=HN.out.1 hd;have HF:=zH hf;rw[hd] at n1;clear hf HN;go_wp2_with fail;refine HC2.mono ?_;rintro e w2 ⟨rfl,rfl⟩;rw[n1];go_wp2_with fail;go_ret;exact⟨by rw[HF.out];rfl,hc⟩
     | false=>
      have hf:=HN.out.2 hd;have hlen1:l.length - 1<l.length:=by omega
      rw[headD_get l n2,lastD_get l hlen1] at hf;rw[hd] at n1;have g0:∀h,(str l)[0]'h=l[0]:=fun h=>rfl
      obtain⟨m,hm⟩:∃m,l.length=m+1:=⟨l.length - 1,by omega⟩;have g1:∀h,(str l)[m]'h=l[l.length - 1]:=fun h=>by simp[str,ByteArray.getElem_eq_getElem_data,hm]
      have i1:∀w,(Instr.index 9 (.string (str l)) (.int .i64 0)).run Tryz.prog w=.ok (.int .u8 ((l[0]).toNat:Int)) w:=fun w=>idxS w l 0 n2
      have i2:=fun w=>idxS w l m (by omega)
      have e2:l[m]'(by omega)=l[l.length - 1]:=by congr 1;omega
      rw[e2] at i2;have hmb:m≤1000000000:=by omega
      have hmi:(m:Int)≤1000000000:=by omega
      have hw:IntKind.i64.wrap ((l.length:Int) - 1)=(m:Int):=by rw[show (l.length:Int) - 1=(m:Int) by omega];exact wrap_i64_nat m (by omega)
      have b1:=(l[0]).toNat_lt;have b2:=(l[l.length - 1]).toNat_lt;generalize l[0]=x8 at *;generalize l[l.length - 1]=y8 at *;have HM:=zH hm;clear e2 hm hlen1 n2 hp g0 g1;have HF:=zH hf;clear hf HN;go_wp2_with fail;refine HC2.mono ?_;rintro e w2 ⟨rfl,rfl⟩;rw[n1];go_wp2_with fail;go_quiet (fail);have hcq:=hc.drewN nq;generalize w2.drewN nq=w3 at *;go_wp2_with fail;(all_goals go_ret);(all_goals refine⟨rb ?_,hcq⟩);(all_goals rw[HF.out]);(all_goals (try simp only[bne_iff_ne,bne_eq_false_iff_eq,beq_iff_eq,beq_eq_false_iff_ne,ne_eq] at *));all_goals (rw[Bool.eq_iff_iff];simp only[headBad,lastBad,Bool.and_eq_true,Bool.not_eq_true',Bool.or_eq_false_iff,beq_eq_false_iff_ne,bne_iff_ne,ne_eq,Bool.false_eq_true,false_iff];omega)
end Go.Proofs.YtlbdklaggalgfaaGreatDoor
namespace Go.Aq
theorem str_append (a b:List UInt8):str a++str b=str (a++b):=by
 unfold str;apply ByteArray.ext;rw[ByteArray.data_append];simp
end Go.Aq
namespace Go.Aq.Wd
theorem encode_enc1 (c:Nat) (h:okR c):Utf8.encode (c:Int)=str (enc1 c):=by
 have hv:Utf8.valid (c:Int)=true:=by
  unfold okR at h;simp only[Utf8.valid,Bool.or_eq_true,Bool.and_eq_true,decide_eq_true_eq];omega
 unfold Utf8.encode enc1 str;simp only[hv,if_true,Int.toNat_natCast];split;·rfl
 ·split;·rfl
  ·split <;> rfl
def z65:List Value:=List.replicate 65 (.int .u8 0)
end Go.Aq.Wd
namespace Go.Proofs.YtlbdklaggalgfaaGreatDoor
open Go.RowKit Go.Aq Go.Aq.Wd
theorem pow16 (w:World):Calls Tryz.prog 246 #[.int .i64 16] w fun e w'=>e=.returned (.bool true)∧w'=w:=by
 go_enter Tryz.func246,Tryz.ntmps246
 go_wp2
 go_ret;exact⟨rfl,rfl⟩
theorem tz16 (w:World) (hT:Tabs w):Calls Tryz.prog 258 #[.int .u64 16] w fun e w'=>e=.returned (.int .i64 4)∧w'=w:=by
 have h4:=hT.2.2;have b1:bits .and .u64 16 (IntKind.u64.wrap (-16))=16:=by decide+kernel
 have b2:IntKind.u64.wrap (16 * 285870213051353865)=4573923408821661840:=by decide+kernel
 have b3:((4573923408821661840:Int) / 288230376151711744).toNat=15:=by decide+kernel
 go_enter Tryz.func258,Tryz.ntmps258
 go_wp2
 go_ret;exact⟨rfl,rfl⟩
theorem tzz16 (w:World) (hT:Tabs w):Calls Tryz.prog 247 #[.int .u64 16] w fun e w'=>e=.returned (.int .i64 4)∧w'=w:=by
 go_enter Tryz.func247,Tryz.ntmps247;go_wp2_with fail;refine (tz16 w hT).mono ?_;rintro e w1 ⟨rfl,rfl⟩;go_wp2_with fail;go_ret;exact⟨rfl,rfl⟩
def dig36:ByteArray:=⟨#[48,49,50,51,52,53,54,55,56,57,97,98,99,100,101,102,103,104,105,106,107,108,109,110,111,112,113,114,115,116,117,118,119,120,121,122]⟩
set_option maxRecDepth 100000 in
theorem idx36 (w:World) (n:Nat) (h:n<16):(Instr.index 9 (.string dig36) (.int .u64 (n:Int))).run Tryz.prog w=.ok (.int .u8 ((hxd n).toNat:Int)) w:=by
 have h':n=0∨n=1∨n=2∨n=3∨n=4∨n=5∨n=6∨n=7∨n=8∨n=9∨n=10∨n=11∨n=12∨n=13∨n=14∨n=15:=by omega
 rcases h' with rfl | rfl | rfl | rfl | rfl | rfl | rfl | rfl | rfl | rfl | rfl | rfl | rfl | rfl | rfl | rfl <;> rfl
set_option maxRecDepth 100000 in
theorem fmt16 (c:Nat) (hc:c<256) (w:World) (hT:Tabs w):
  Calls Tryz.prog 220 #[.slice none 0 0,.int .u64 c,.int .i64 16,.bool false,.bool false] w fun e w'=>(∃r,e=.returned (.tuple #[r,.string (str (hexC c))]))∧Chg [] w w':=by
 have hz:∀w,(zeroValue 293).run Tryz.prog w=.ok (.agg z65.toArray) w:=fun _=>by kernel_rfl
 have hzl:z65.length=65:=rfl;have hex:hexC c=if c<16 then [hxd c] else [hxd (c / 16),hxd (c % 16)]:=rfl
 have HEX:=zH hex;clear hex;obtain⟨A,hA⟩:∃A,w.heap.size=A:=⟨_,rfl⟩;go_enter Tryz.func220,Tryz.ntmps220;go_wp2_with fail;refine (pow16 _).mono ?_;rintro e w1 ⟨rfl,hw1⟩;have hb1:Blk w1 A z65.toArray 293:=by rw[hw1,←hA];exact Blk.new w _ _
 have hc1:Chg [] w w1:=by rw[hw1];exact (Chg.refl [] w).alloc _
 clear hw1 hz;have hT1:=hT.chg hc1;go_wp2_with fail;refine (tzz16 w1 hT1).mono ?_;rintro e w2 ⟨rfl,rfl⟩;have hbw:Blk w2 A z65.toArray 293:=hb1;go_wp2_with fail;clear hb1 hT1;go_loopg [1,13] (if c<16 then 0 else 1) (fun k vu vi wr=>∃(u i:Nat) (cs:List Value),vu=.int .u64 u∧vi=.int .i64 i∧Blk wr A cs.toArray 293∧Chg [] w wr∧cs.length=65∧
  ((k=1∧u=c∧i=65∧16≤c)∨(k=0∧c<16∧u=c∧i=65)∨(k=0∧16≤c∧u=c / 16∧i=64∧cs[64]?=some (.int .u8 ((hxd (c % 16)).toNat:Int)))))
 case atStart=>
  refine⟨c,65,z65,rfl,rfl,hbw,hc1,rfl,?_⟩;by_cases h:c<16;·right;left;simp[h]
  ·left;simp[h];omega
 case round=>
  obtain⟨u,i,cs,rfl,rfl,hb,hch,hcl,hst⟩:=hrel;rcases hst with ⟨rfl,rfl,rfl,h16⟩ | hst
  ·have t1:decide ((16:Int)≤(u:Int))=true:=by simp;omega
   have x0:∃v,wr.cell? ⟨A,64,none⟩=some v:=⟨cs[64]'(by omega),by rw[hb.cell];simp⟩;obtain⟨v0,x0⟩:=x0;have f0:=hb.frozen 64;have band:bits .and .u64 (u:Int) 15=((u % 16:Nat):Int):=by
    have:=(bits_nat_full .u64 (fun n h=>by rw[IntKind.wrap_u64];simp only[IntKind.bits] at h;omega) u 15 (by simp[IntKind.bits];omega) (by simp[IntKind.bits])).1;rw[show u &&& 15=u % 16 from Nat.and_two_pow_sub_one_eq_mod u 4] at this;exact this
   obtain⟨r,hr⟩:∃r,u % 16=r:=⟨_,rfl⟩;obtain⟨q,hq⟩:∃q,u / 16=q:=⟨_,rfl⟩;have er:(u:Int) % 16=(r:Int):=by omega
   have eq:(u:Int) / 16=(q:Int):=by omega
   have hr16:r<16:=by omega
   have hq16:q<16:=by omega
   rw[hr] at band;have ix:=fun w=>idx36 w r hr16
   unfold dig36 at ix;have hb2:=hb.set 64 (.int .u8 ((hxd r).toNat:Int));have hc2:=hch.setCell (p:=⟨A,64,none⟩) (.inr (by simp;omega)) (.int .u8 ((hxd r).toNat:Int));generalize hx:(hxd r).toNat=x at *;have HX:=zH hx;have HQ:=zH hq;have HR:=zH hr;clear hx hq hr;go_wp2_with fail;go_roundg 0;case measure=>omega
   case rel=>
    refine⟨q,64,cs.set 64 (.int .u8 (x:Int)),rfl,rfl,?_,hc2,by simp[hcl],.inr (.inr ⟨rfl,h16,HQ.out.symm,rfl,?_⟩)⟩;·rw[List.setIfInBounds_toArray] at hb2;exact hb2
    ·rw[HR.out,HX.out,List.getElem?_set_self (by omega)]
  ·have hk:gk=0:=by omega
   have hu:u<16:=by omega
   have t1:decide ((16:Int)≤(u:Int))=false:=by simp;omega
   have ix:=fun w=>idx36 w u hu
   unfold dig36 at ix;obtain⟨x,hx⟩:∃x,hxd u=x:=⟨_,rfl⟩;rw[hx] at ix;have HX:=zH hx;clear hx;rcases hst with ⟨-,h16,rfl,rfl⟩ | ⟨-,h16,hu16,rfl,hcs⟩
   ·have x0:∃v,wr.cell? ⟨A,64,none⟩=some v:=⟨cs[64]'(by omega),by rw[hb.cell];simp⟩;obtain⟨v0,x0⟩:=x0;have f0:=hb.frozen 64;have hb2:=hb.set 64 (.int .u8 (x.toNat:Int));have hc2:=hch.setCell (p:=⟨A,64,none⟩) (.inr (by simp;omega)) (.int .u8 (x.toNat:Int));have hse:Sees (wr.setCell ⟨A,64,none⟩ (.int .u8 (x.toNat:Int))) 1 (.slice (some ⟨A,64,none⟩) 1 1) 1 (Bs [x]):=by
     refine⟨rfl,_,_,rfl,Nat.le_refl _,by simp,fun ad had j u' hu'=>?_⟩;cases had;have hj:j=0:=by have:=(List.getElem?_eq_some_iff.1 hu').1;simp[Bs] at this;omega
     subst hj;rw[Addr.add_lit,hb2.cell];simp[Bs,Bc] at hu';simp[hcl,←hu']
    have r1:=run_str8 hse;have hh:hexC u=[x]:=by rw[HEX.out,if_pos h16,HX.out]
    have HH:=zH hh;clear hh HEX hk;generalize x.toNat=xn at *;go_wp2_with fail;go_ret2;exact⟨⟨_,by rw[HH.out];rfl⟩,hc2⟩
   ·have x0:∃v,wr.cell? ⟨A,63,none⟩=some v:=⟨cs[63]'(by omega),by rw[hb.cell];simp⟩;obtain⟨v0,x0⟩:=x0;have f0:=hb.frozen 63;have hb2:=hb.set 63 (.int .u8 (x.toNat:Int));have hc2:=hch.setCell (p:=⟨A,63,none⟩) (.inr (by simp;omega)) (.int .u8 (x.toNat:Int));have hse:Sees (wr.setCell ⟨A,63,none⟩ (.int .u8 (x.toNat:Int))) 1 (.slice (some ⟨A,63,none⟩) 2 2) 2 (Bs [x,hxd (c % 16)]):=by
     refine⟨rfl,_,_,rfl,Nat.le_refl _,by simp,fun ad had j u' hu'=>?_⟩;cases had;have hj:j=0∨j=1:=by have:=(List.getElem?_eq_some_iff.1 hu').1;simp[Bs] at this;omega
     rcases hj with rfl | rfl
     ·rw[Addr.add_lit,hb2.cell];simp[Bs,Bc] at hu';simp[hcl,←hu']
     ·rw[Addr.add_lit,hb2.cell];simp[Bs,Bc] at hu';rw[List.setIfInBounds_toArray,List.getElem?_toArray,List.getElem?_set_ne (by decide),←hu'];exact hcs
    have r1:=run_str8 hse;have hh:hexC c=[x,hxd (c % 16)]:=by rw[HEX.out,if_neg (by omega),←HX.out,hu16]
    have HH:=zH hh;clear hh HEX hk hcs hu16;generalize hxd (c % 16)=y at *;generalize x.toNat=xn at *;go_wp2_with fail;go_ret2;exact⟨⟨_,by rw[HH.out];rfl⟩,hc2⟩
set_option maxRecDepth 100000 in
theorem fmtI (c:Nat) (hc:c<256) (w:World) (hT:Tabs w):
  Calls Tryz.prog 190 #[.int .i64 c,.int .i64 16] w fun e w'=>e=.returned (.string (str (hexC c)))∧Chg [] w w':=by
 have hf:=fmt16 c hc w hT;generalize hexC c=H at *;go_enter Tryz.func190,Tryz.ntmps190;go_wp2_with fail;refine hf.mono ?_;rintro e w1 ⟨⟨r,rfl⟩,c1⟩;go_wp2_with fail;go_ret;exact⟨rfl,c1⟩
theorem fmtS (c:Nat) (hc:c<256) (w:World) (hT:Tabs w):
  Calls Tryz.prog 146 #[.int .i64 c,.int .i64 16] w fun e w'=>e=.returned (.string (str (hexC c)))∧Chg [] w w':=by
 have hf:=fmtI c hc w hT;generalize hexC c=H at *;go_enter Tryz.func146,Tryz.ntmps146;go_wp2_with fail;refine hf.mono ?_;rintro e w1 ⟨rfl,c1⟩;go_wp2_with fail;go_ret;exact⟨rfl,c1⟩
theorem written_any (c:Nat) (hc:okR c) (w:World) (hT:Tabs w):
  Calls Tryz.prog 87 #[.int .i32 c] w fun e w'=>e=.returned (.string (str (writ c)))∧Chg [] w w':=by
 have henc:=encode_enc1 c hc;have hle:=okR_le hc;by_cases h1:c=34∨c=92
 ·have hw:writ c=[92]++enc1 c:=by
   unfold writ;rw[if_pos h1];rcases h1 with rfl | rfl <;> rfl
  rw[hw,←str_append];clear hw hc;rcases h1 with rfl | rfl
  ·go_enter Tryz.func87,Tryz.ntmps87;go_wp2_with fail;go_ret;exact⟨rfl,Chg.refl _ _⟩
  ·go_enter Tryz.func87,Tryz.ntmps87;go_wp2_with fail;go_ret;exact⟨rfl,Chg.refl _ _⟩
 ·have t1:((c:Int)==34)=false:=by simp;omega
  have t2:((c:Int)==92)=false:=by simp;omega
  by_cases h10:c=10
  ·subst h10;have hw:writ 10=[92,110]:=rfl;rw[hw];go_enter Tryz.func87,Tryz.ntmps87;go_wp2_with fail;go_ret;exact⟨rfl,Chg.refl _ _⟩
  ·have t3:((c:Int)==10)=false:=by simp;omega
   cases hlow:low c with
   | true=>
    have hb:c<256:=by simp only[low,Bool.or_eq_true,Bool.and_eq_true,decide_eq_true_eq] at hlow;omega
    have hw:writ c=[92,117,123]++hexC c++[125]:=by unfold writ;rw[if_neg h1,if_neg h10,if_pos hlow]
    have hf:=fun w' h=>fmtS c hb w' h
    have hHl:(hexC c).length≤2:=by unfold hexC;split <;> simp
    have hHs:=str_size (hexC c);rw[hw,←str_append,←str_append];generalize hexC c=H at *;clear hw hc h1 h10 henc;go_enter Tryz.func87,Tryz.ntmps87;go_wp2_with fail;refine (low_any c hle w).mono ?_;rintro e w1 ⟨rfl,rfl⟩;rw[hlow];go_wp2_with fail;refine (hf w1 hT).mono ?_;rintro e w2 ⟨rfl,c2⟩;clear hf;go_wp2_with fail;go_ret;exact⟨rfl,c2⟩
   | false=>
    have hw:writ c=enc1 c:=by unfold writ;rw[if_neg h1,if_neg h10,if_neg (by simp[hlow])]
    rw[hw];generalize enc1 c=E at *;clear hw hc h1 h10;go_enter Tryz.func87,Tryz.ntmps87;go_wp2_with fail;refine (low_any c hle w).mono ?_;rintro e w1 ⟨rfl,rfl⟩;rw[hlow];go_wp2_with fail;go_ret;exact⟨rfl,Chg.refl _ _⟩
end Go.Proofs.YtlbdklaggalgfaaGreatDoor
