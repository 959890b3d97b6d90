/- Valid WordB WordC ObPlain -/
import Derived.Test.YtlidiclfpklliaaGreatDoorG20
import Derived.Test.YtlidiclfpklliaaGreatDoorG19
set_option linter.unusedSimpArgs false
set_option linter.unusedVariables false
set_option maxHeartbeats 2000000
namespace Go.Aq
open Go.RowKit
theorem unD_hxD (n:Nat) (h:n<16):unD (hxD n)=(n:Int):=by
 have h':n=0∨n=1∨n=2∨n=3∨n=4∨n=5∨n=6∨n=7∨n=8∨n=9∨n=10∨n=11∨n=12∨n=13∨n=14∨n=15:=by omega
 rcases h' with rfl | rfl | rfl | rfl | rfl | rfl | rfl | rfl | rfl | rfl | rfl | rfl | rfl | rfl | rfl | rfl <;> decide
theorem unhex_hex:∀b:List UInt8,unhexL (hexL b)=some b
 | []=>rfl
 | x::t=>by
  have hx:=x.toNat_lt
  have e:hexL (x::t)=hxD (x.toNat / 16)::hxD (x.toNat % 16)::hexL t:=by simp[hexL]
  rw[e,unhexL,unD_hxD _ (by omega),unD_hxD _ (by omega),if_neg (by omega),unhex_hex t]
  simp only[Option.map_some,Int.toNat_natCast]
  rw[Nat.div_add_mod]
  simp
def validB (s:List UInt8):Bool:=match unhexL s with | some bs=>bs.length==32 | none=>false
theorem validB_hex (b:List UInt8) (h:b.length=32):validB (hexL b)=true:=by unfold validB;rw[unhex_hex];simp[h]
end Go.Aq
namespace Go.Proofs.YtlidiclfpklliaaGreatDoor
open Go.RowKit Go.Aq
theorem valid_any (w:World) (s:List UInt8) (hs:s.length≤1000000):
  Calls Tryz.prog 79 #[.string (str s)] w fun e w'=>e=.returned (.bool (validB s))∧Chg [] w w':=by
 go_enter Tryz.func79,Tryz.ntmps79
 go_wp2_with fail
 refine (unhex_any w s hs).mono ?_
 rintro e w1 (⟨bs,v',hu,rfl,hf⟩ | ⟨hu,rfl,hc⟩)
 ·obtain⟨ao,cap,rfl,hcap⟩:=hf.shape
  have hv:validB s=(bs.length==32):=by unfold validB;rw[hu]
  have HV:=zH hv
  have hc:=hf.chg
  clear hu hv hf
  generalize bs.length=k at *
  go_wp2_with fail
  go_ret
  exact⟨ret_bool (by rw[HV.out,Bool.eq_iff_iff];simp;omega),hc⟩
 ·have hv:validB s=false:=by unfold validB;rw[hu]
  have HV:=zH hv
  clear hu hv
  go_wp2_with fail
  go_ret
  exact⟨ret_bool HV.out.symm,hc⟩
end Go.Proofs.YtlidiclfpklliaaGreatDoor
namespace Go.Aq.Wd
theorem place_drop (rs:List Nat) (j:Nat):(encL rs).drop (encL (rs.take j)).length=encL (rs.drop j):=by
 conv=>lhs;arg 2;rw[←List.take_append_drop j rs,encL_append]
 exact List.drop_left
theorem place_lt (rs:List Nat) (j:Nat) (hj:j≤rs.length):(encL (rs.take j)).length<(encL rs).length↔j<rs.length:=by
 have h:(encL rs).length=(encL (rs.take j)).length+(encL (rs.drop j)).length:=by rw[←List.length_append,←encL_append,List.take_append_drop]
 constructor
 ·intro hl
  by_cases h2:j<rs.length
  ·exact h2
  ·have e0:(encL ([]:List Nat)).length=0:=rfl
   rw[List.drop_eq_nil_of_le (by omega),e0] at h;omega
 ·intro hl
  rw[List.drop_eq_getElem_cons hl,encL_cons,List.length_append] at h
  have:=enc1_len rs[j]
  omega
theorem place_step (rs:List Nat) (ok:∀c∈rs,okR c) (j:Nat) (hj:j<rs.length):
  dec ((encL rs).drop (encL (rs.take j)).length)=(rs[j],(enc1 rs[j]).length)∧(encL (rs.take (j+1))).length=(encL (rs.take j)).length+(enc1 rs[j]).length:=by
 refine⟨?_,?_⟩
 ·rw[place_drop,List.drop_eq_getElem_cons hj,encL_cons]
  exact dec_enc _ (ok _ (List.getElem_mem hj)) _
 ·rw[List.take_succ_eq_append_getElem hj,encL_append,List.length_append]
  simp[encL]
theorem okR_le {c:Nat} (h:okR c):c≤2000000:=by unfold okR at h;omega
end Go.Aq.Wd
namespace Go.Proofs.YtlidiclfpklliaaGreatDoor
open Go.RowKit Go.Aq Go.Aq.Wd
theorem text_any (l:List UInt8) (w:World) (hT:Tabs w) (hl:l.length≤1000000000):
  Calls Tryz.prog 387 #[.string (str l)] w fun e w'=>e=.returned (.bool (textL l))∧Chg [] w w':=by
 have hsz:=str_size l
 have hca:=count_any l w hT hl
 cases hs:sigs l with
 | none=>
  have hcl:countL l=(0,4):=by unfold countL;rw[hs]
  have hp:textL l=false:=by unfold textL;rw[hs]
  rw[hp]
  rw[hcl] at hca
  go_enter Tryz.func387,Tryz.ntmps387
  go_wp2_with fail
  refine hca.mono ?_
  rintro e w1 ⟨rfl,c1⟩
  go_wp2_with fail
  go_ret
  exact⟨rfl,c1⟩
 | some rs=>
  have hcl:=countL_of hs
  have hp:=textL_of hs
  obtain⟨he,ok⟩:=sigs_enc hs
  rw[hp]
  rw[hcl] at hca
  have hca:Calls Tryz.prog 217 #[.string (str l)] w fun e w'=>e=.returned (.tuple #[.int .i64 (rs.length:Nat),.int .i64 0])∧Chg [] w w':=hca
  by_cases h1:rs.length≤200
  ·have t1:decide (200<(rs.length:Int))=false:=by simp;omega
   have t1':decide (200<rs.length)=false:=by simp;omega
   have hR:textR rs=rs.all fun c=>!low c || c==10:=by unfold textR;simp[h1]
   rw[hR]
   have HOK:=zH ok
   have HE:=zH he
   clear ok he hp hcl hs h1 hR
   go_enter Tryz.func387,Tryz.ntmps387
   go_wp2_with fail
   refine hca.mono ?_
   rintro e w1 ⟨rfl,c1⟩
   obtain⟨K,hK⟩:∃K,w1.heap.size=K:=⟨_,rfl⟩
   clear hca
   go_wp2_with fail
   go_loopg [] l.length (fun k wr=>∃(pos j:Nat),pos+k=l.length∧j≤rs.length∧pos=(encL (rs.take j)).length∧wr.heap[K]?=some (.stringIter (str l) pos)∧Chg [] w1 wr∧(rs.take j).all (fun c=>!low c || c==10)=true)
   case atStart=>
    refine⟨0,0,by omega,by omega,by simp[encL],?_,(Chg.refl _ _).range _ _,rfl⟩
    rw[←hK];exact World.iter_heap w1 (str l) 0
   case round=>
    obtain⟨pos,j,hpk,hjl,hpos,hit,hc,hall⟩:=hrel
    have hlt:=place_lt rs j hjl
    rw[←hpos,←HE.out] at hlt
    by_cases hp:pos<l.length
    ·have hj:=hlt.1 hp
     have hnx:=fun ty=>next_at l wr K pos hit hp ty
     obtain⟨hd,hnp⟩:=place_step rs HOK.out j hj
     rw[←hpos,←HE.out] at hd
     rw[←hpos] at hnp
     have hfit:=dec_fits l pos hp
     have hdp:=dec_pos (l.drop pos)
     have hd1:=dec_fst (l.drop pos)
     have hcn:=hc.iterAt (k:=K) (.inr (by omega)) (str l) (pos+(dec (l.drop pos)).2)
     have hitn:=Lib.iterAt_heap wr K (str l) pos (pos+(dec (l.drop pos)).2) hit
     have hts:=List.take_succ_eq_append_getElem hj
     have hmem:rs[j]∈rs:=List.getElem_mem hj
     rw[hd] at hnx hcn hitn hfit hdp hd1
     generalize rs[j]=c at *
     generalize (enc1 c).length=nn at *
     simp only at hnx hcn hitn hfit hdp hd1
     generalize wr.iterAt K (str l) (pos+nn)=w2 at *
     have HP:=zA hpk hnp
     have HA:=zB hall hts hmem
     clear hd hit hc hlt hpk hnp hpos hall hts hmem
     by_cases hf:(!low c || c==10)=true
     ·by_cases hlow:low c=true
      ·have h10:c=10:=by simpa[hlow] using hf
       subst h10
       go_wp2_with fail
       refine (low_any 10 (by omega) w2).mono ?_
       rintro e w3 ⟨rfl,rfl⟩
       rw[hlow]
       go_wp2_with fail
       go_roundg (gk - nn)
       case measure=>have:=HP.out;omega
       case rel=>exact⟨pos+nn,j+1,by have:=HP.out;omega,by omega,HP.out.2.symm,hitn,hcn,by rw[HA.out.2.1,List.all_append,HA.out.1];simp⟩
      ·have hlow':low c=false:=by simpa using hlow
       go_wp2_with fail
       refine (low_any c (by omega) w2).mono ?_
       rintro e w3 ⟨rfl,rfl⟩
       rw[hlow']
       go_wp2_with fail
       go_roundg (gk - nn)
       case measure=>have:=HP.out;omega
       case rel=>exact⟨pos+nn,j+1,by have:=HP.out;omega,by omega,HP.out.2.symm,hitn,hcn,by rw[HA.out.2.1,List.all_append,HA.out.1];simp[hlow']⟩
     ·have hlow:low c=true:=by
       cases h:low c with
       | true=>rfl
       | false=>simp[h] at hf
      have h10:c≠10:=by rintro rfl;simp at hf
      have t10:((c:Int) != 10)=true:=by simp;omega
      have t10':((c:Int)==10)=false:=by simp;omega
      have hR:(rs.all fun c=>!low c || c==10)=false:=by
       rw[List.all_eq_false]
       exact⟨c,HA.out.2.2,hf⟩
      have HR:=zH hR
      clear hR hf
      go_wp2_with fail
      refine (low_any c (by omega) w2).mono ?_
      rintro e w3 ⟨rfl,rfl⟩
      rw[hlow]
      go_wp2_with fail
      go_ret
      exact⟨by rw[HR.out];rfl,c1.nil hcn⟩
    ·have hnx:=fun ty=>next_end l wr K pos hit hp ty
     have hj:rs.length≤j:=by have:=mt hlt.2 hp;omega
     rw[List.take_of_length_le hj] at hall
     have HA:=zH hall
     clear hpos hlt hall
     go_wp2_with fail
     go_ret
     exact⟨by rw[HA.out];rfl,c1.nil hc⟩
  ·have t1:decide (200<(rs.length:Int))=true:=by simp;omega
   have t1':decide (200<rs.length)=true:=by simp;omega
   have hR:textR rs=false:=by unfold textR;simp[h1]
   rw[hR]
   clear ok he hp hcl hs h1 hR
   go_enter Tryz.func387,Tryz.ntmps387
   go_wp2_with fail
   refine hca.mono ?_
   rintro e w1 ⟨rfl,c1⟩
   go_wp2_with fail
   go_ret
   exact⟨rfl,c1⟩
end Go.Proofs.YtlidiclfpklliaaGreatDoor
namespace Go.Aq.Wd
theorem Pre_not {l:List UInt8} {pos:Nat} {pre:List Nat} (h:sigs l=(sigs (l.drop pos)).map (pre++·)) (hp:l.drop pos≠[]) (hb:letter (dec (l.drop pos)).1=false):nameL l=false:=by
 unfold nameL
 rw[h,sigs_step _ hp]
 cases hbd:bad (dec (l.drop pos)) with
 | true=>simp
 | false=>
  simp only[Bool.false_eq_true,if_false]
  cases sigs ((l.drop pos).drop (dec (l.drop pos)).2) with
  | none=>rfl
  | some t=>
   simp only[Option.map_some]
   have:(pre++(dec (l.drop pos)).1::t).all letter=false:=by
    rw[List.all_eq_false]
    exact⟨(dec (l.drop pos)).1,by simp,by rw[hb];simp⟩
   simp only[nameR,this,Bool.and_false,Bool.false_and]
theorem letter_bad (d:Nat×Nat) (h:letter d.1=true):bad d=false:=by
 refine not_bad d.1 d.2 ?_
 rintro⟨h1,-⟩
 rw[h1] at h
 revert h;decide
theorem headD_get (l:List UInt8) (h:0<l.length):l.headD 0=l[0]:=by cases l;(simp at h);rfl
theorem lastD_get (l:List UInt8) (h:l.length - 1<l.length):l.getLastD 0=l[l.length - 1]:=by
 rw[List.getLastD_eq_getLast?,List.getLast?_eq_getElem?,List.getElem?_eq_getElem h];rfl
theorem name_tail (l:List UInt8) (rs:List Nat) (hs:sigs l=some rs) (h1:1≤rs.length) (h2:rs.length≤40) (hall:rs.all letter=true):
  has2 l=dbl rs∧0<l.length∧(dbl rs=true→nameL l=false)∧
  (dbl rs=false→nameL l=(!headBad (l.headD 0).toNat&&!lastBad (l.getLastD 0).toNat)):=by
 obtain⟨he,ok⟩:=sigs_enc hs
 have hne:rs≠[]:=by rintro rfl;simp at h1
 have hlen:0<l.length:=by
  rw[he]
  cases rs with
  | nil=>exact absurd rfl hne
  | cons c t=>rw[encL_cons,List.length_append];have:=enc1_len c;omega
 have hh:∀k,k<128→0<k→((l.headD 0).toNat=k↔rs.headD 0=k):=fun k hk hk0=>by
  rw[←head_encL rs ok k hk hk0,←he]
  constructor
  ·intro e;exact (u8e _ _ e).symm
  ·intro e;rw[e,u8n k (by omega)]
 have hl:∀k,k<128→0<k→((l.getLastD 0).toNat=k↔rs.getLastD 0=k):=fun k hk hk0=>by
  rw[←last_encL rs hne ok k hk hk0,←he]
  constructor
  ·intro e;exact (u8e _ _ e).symm
  ·intro e;rw[e,u8n k (by omega)]
 refine⟨by rw[←has2_encL rs ok,←he],hlen,fun hd=>?_,fun hd=>?_⟩
 ·rw[nameL_of hs];simp only[nameR,hd,Bool.not_true,Bool.and_false,Bool.false_and]
 ·rw[nameL_of hs]
  have e1:headBad (l.headD 0).toNat=headBad (rs.headD 0):=by
   rw[Bool.eq_iff_iff];simp only[headBad,Bool.or_eq_true,beq_iff_eq]
   rw[hh 45 (by decide) (by decide),hh 46 (by decide) (by decide),hh 47 (by decide) (by decide)]
  have e2:lastBad (l.getLastD 0).toNat=lastBad (rs.getLastD 0):=by
   rw[Bool.eq_iff_iff];simp only[lastBad,Bool.or_eq_true,beq_iff_eq]
   rw[hl 46 (by decide) (by decide),hl 47 (by decide) (by decide)]
  rw[e1,e2]
  simp only[nameR,hd,hall,h1,h2]
  simp
end Go.Aq.Wd
namespace Go.Proofs.YtlidiclfpklliaaGreatDoor
open Go.RowKit Go.Aq Go.Aq.Wd
theorem contains2 (l:List UInt8) (w:World) (hT:Tabs w) (hl:l.length≤1000000000):
  Calls Tryz.prog 276 #[.string (str l),.string ⟨#[47,47]⟩] w fun e w'=>e=.returned (.bool (has2 l))∧w'=w:=by
 obtain⟨-,⟨m,hm⟩,-⟩:=hT
 exact Tryz.strings_Contains (str l) (str [47,47]) m w (by rw[str_size];omega) hm
theorem name_any (l:List UInt8) (w:World) (hT:Tabs w) (hl:l.length≤1000000000):
  Calls Tryz.prog 215 #[.string (str l)] w fun e w'=>e=.returned (.bool (nameL l))∧Chg [] w w':=by
 have hsz:=str_size l
 obtain⟨K,hK⟩:∃K,w.heap.size=K:=⟨_,rfl⟩
 go_enter Tryz.func215,Tryz.ntmps215
 go_wp2_with fail
 go_loopg [3] l.length (fun k vn wr=>∃(pos:Nat) (pre:List Nat),vn=.int .i64 pre.length∧pos+k=l.length∧pre.length≤pos∧wr.heap[K]?=some (.stringIter (str l) pos)∧Chg [] w wr∧Pre l pos pre∧pre.all letter=true)
 case atStart=>
  refine⟨0,[],rfl,by omega,by simp,?_,(Chg.refl _ _).range _ _,Pre.zero l,rfl⟩
  rw[←hK];exact World.iter_heap w (str l) 0
 case round=>
  obtain⟨pos,pre,rfl,hpk,hpl,hit,hc,hpre,hall⟩:=hrel
  have hpb:pre.length≤1000000000:=by omega
  have hpb':(pre.length:Int)≤1000000000:=by omega
  by_cases hp:pos<l.length
  ·have hnx:=fun ty=>next_at l wr K pos hit hp ty
   have hfit:=dec_fits l pos hp
   have hdp:=dec_pos (l.drop pos)
   have hd1:=dec_fst (l.drop pos)
   have hcn:=hc.iterAt (k:=K) (.inr (by omega)) (str l) (pos+(dec (l.drop pos)).2)
   have hitn:=Lib.iterAt_heap wr K (str l) pos (pos+(dec (l.drop pos)).2) hit
   have hst:=hpre.step hp
   have hno:=Pre_not hpre (drop_ne l pos hp)
   generalize dec (l.drop pos)=d at *
   obtain⟨c,n⟩:=d
   simp only at *
   generalize wr.iterAt K (str l) (pos+n)=w1 at *
   have HST:=zH hst
   have HNO:=zH hno
   have HP:=zB hpk hpl hall
   clear hst hno hpre hit hc hpk hpl hall
   by_cases hlt:letter c=true
   ·have hg:=HST.out (letter_bad (c,n) hlt)
    go_wp2_with fail
    refine (letter_any c (by omega) w1).mono ?_
    rintro e w2 ⟨rfl,rfl⟩
    rw[hlt]
    go_wp2_with fail
    go_roundg (gk - n)
    case measure=>have:=HP.out.1;omega
    case rel=>exact⟨pos+n,pre++[c],by simp,by have:=HP.out.1;omega,by have:=HP.out.2.1;simp;omega,hitn,hcn,hg,by rw[List.all_append,HP.out.2.2];simp[hlt]⟩
   ·have hlt':letter c=false:=by simpa using hlt
    go_wp2_with fail
    refine (letter_any c (by omega) w1).mono ?_
    rintro e w2 ⟨rfl,rfl⟩
    rw[hlt']
    go_wp2_with fail
    go_ret
    exact⟨by rw[HNO.out hlt'];rfl,hcn⟩
  ·have hnx:=fun ty=>next_end l wr K pos hit hp ty
   have hs:=hpre.all hp
   have hnt:=name_tail l pre hs
   have hnm:=nameL_of hs
   have HNT:=zH hnt
   have HNM:=zH hnm
   have HALL:=zH hall
   have hTr:=hT.chg hc
   clear hpre hall hs hnt hnm
   by_cases h1:pre.length<1
   ·have t1:decide ((pre.length:Int)<1)=true:=by simp;omega
    have t1':decide (pre.length<1)=true:=decide_eq_true (by omega)
    have h0:pre.length=0:=by omega
    have hf:nameL l=false:=by rw[HNM.out];simp[nameR,h0]
    have HF:=zH hf
    clear hf
    go_wp2_with fail
    go_ret
    exact⟨by rw[HF.out];rfl,hc⟩
   ·have t1:decide ((pre.length:Int)<1)=false:=by simp;omega
    have t1':decide (pre.length<1)=false:=decide_eq_false (by omega)
    by_cases h2:40<pre.length
    ·have t2:decide (40<(pre.length:Int))=true:=by simp;omega
     have t2':decide (40<pre.length)=true:=by simp;omega
     have h0:¬pre.length≤40:=by omega
     have hf:nameL l=false:=by rw[HNM.out];simp[nameR,h0]
     have HF:=zH hf
     clear hf
     go_wp2_with fail
     go_ret
     exact⟨by rw[HF.out];rfl,hc⟩
    ·have t2:decide (40<(pre.length:Int))=false:=by simp;omega
     have t2':decide (40<pre.length)=false:=by simp;omega
     have HC2:=contains2 l wr hTr hl
     obtain⟨n1,n2,n3,n4⟩:=HNT.out (by omega) (by omega) HALL.out
     have HN:=zA n3 n4
     clear n3 n4 HNT HNM h1 h2
     cases hd:dbl pre with
     | true=>
      have hf:=HN.out.1 hd
      have HF:=zH hf
      rw[hd] at n1
      clear hf HN
      go_wp2_with fail
      refine HC2.mono ?_
      rintro e w2 ⟨rfl,rfl⟩
      rw[n1]
      go_wp2_with fail
      go_ret
      exact⟨by rw[HF.out];rfl,hc⟩
     | false=>
      have hf:=HN.out.2 hd
      have hlen1:l.length - 1<l.length:=by omega
      rw[headD_get l n2,lastD_get l hlen1] at hf
      rw[hd] at n1
      have g0:∀h,(str l)[0]'h=l[0]:=fun h=>rfl
      obtain⟨m,hm⟩:∃m,l.length=m+1:=⟨l.length - 1,by omega⟩
      have g1:∀h,(str l)[m]'h=l[l.length - 1]:=fun h=>by simp[str,ByteArray.getElem_eq_getElem_data,hm]
      have i1:∀w,(Instr.index 9 (.string (str l)) (.int .i64 0)).run Tryz.prog w=.ok (.int .u8 ((l[0]).toNat:Int)) w:=fun w=>idxS w l 0 n2
      have i2:=fun w=>idxS w l m (by omega)
      have e2:l[m]'(by omega)=l[l.length - 1]:=by congr 1;omega
      rw[e2] at i2
      have hmb:m≤1000000000:=by omega
      have hmi:(m:Int)≤1000000000:=by omega
      have hw:IntKind.i64.wrap ((l.length:Int) - 1)=(m:Int):=by rw[show (l.length:Int) - 1=(m:Int) by omega];exact wrap_i64_nat m (by omega)
      have b1:=(l[0]).toNat_lt
      have b2:=(l[l.length - 1]).toNat_lt
      generalize l[0]=x8 at *
      generalize l[l.length - 1]=y8 at *
      have HM:=zH hm
      clear e2 hm hlen1 n2 hp g0 g1
      have HF:=zH hf
      clear hf HN
      go_wp2_with fail
      refine HC2.mono ?_
      rintro e w2 ⟨rfl,rfl⟩
      rw[n1]
      go_wp2_with fail
      go_quiet (fail)
      have hcq:=hc.drewN nq
      generalize w2.drewN nq=w3 at *
      go_wp2_with fail
      all_goals go_ret
      all_goals refine⟨rb ?_,hcq⟩
      all_goals rw[HF.out]
      all_goals (try simp only[bne_iff_ne,bne_eq_false_iff_eq,beq_iff_eq,beq_eq_false_iff_ne,ne_eq] at *)
      all_goals (rw[Bool.eq_iff_iff];simp only[headBad,lastBad,Bool.and_eq_true,Bool.not_eq_true',Bool.or_eq_false_iff,beq_eq_false_iff_ne,bne_iff_ne,ne_eq,Bool.false_eq_true,false_iff];omega)
end Go.Proofs.YtlidiclfpklliaaGreatDoor
namespace Go.Aq
theorem be1 (n:Nat) (hn:n<256):beVal [UInt8.ofNat n]=n:=by
 have h1:=Wd.u8n n hn
 simp only[beVal,List.foldl_cons,List.foldl_nil,h1];omega
theorem be2 (n:Nat) (hn:n<65536):beVal (beB n 2)=n:=by
 have e:beB n 2=[UInt8.ofNat (n / 256),UInt8.ofNat n]:=by
  simp[beB,leBy,List.range_succ]
 rw[e]
 have h1:=Wd.u8n (n / 256) (by omega)
 have h2:(UInt8.ofNat n).toNat=n % 256:=UInt8.toNat_ofNat'
 simp only[beVal,List.foldl_cons,List.foldl_nil,h1,h2]
 omega
theorem be6 (n:Nat) (hn:n<281474976710656):beVal (beB n 6)=n:=by
 have e:beB n 6=[UInt8.ofNat (n / 1099511627776),UInt8.ofNat (n / 4294967296),UInt8.ofNat (n / 16777216),UInt8.ofNat (n / 65536),UInt8.ofNat (n / 256),UInt8.ofNat n]:=by
  simp[beB,leBy,List.range_succ]
 rw[e]
 have h (m:Nat):(UInt8.ofNat m).toNat=m % 256:=UInt8.toNat_ofNat'
 simp only[beVal,List.foldl_cons,List.foldl_nil,h]
 omega
theorem hx_un (a:UInt8) (h:¬unD a<0):hxD (unD a).toNat=a∧(unD a).toNat<16:=by
 have key:∀n,n<256→unD (UInt8.ofNat n)<0∨(hxD (unD (UInt8.ofNat n)).toNat=UInt8.ofNat n∧(unD (UInt8.ofNat n)).toNat<16):=by decide+kernel
 have:=key a.toNat a.toNat_lt
 rw[UInt8.ofNat_toNat] at this
 exact this.resolve_left h
theorem hex_unhex:∀(l r:List UInt8),unhexL l=some r→hexL r=l
 | [],r,h=>by simp[unhexL] at h;subst h;rfl
 | [_],r,h=>by simp[unhexL] at h
 | a::b::t,r,h=>by
  simp only[unhexL] at h
  split at h
  ·simp at h
  ·rename_i hab
   obtain⟨r',h1,rfl⟩:=Option.map_eq_some_iff.1 h
   have ih:=hex_unhex t r' h1
   obtain⟨ea,la⟩:=hx_un a fun h=>hab (.inl h)
   obtain⟨eb,lb⟩:=hx_un b fun h=>hab (.inr h)
   have hn:=Wd.u8n (16 * (unD a).toNat+(unD b).toNat) (by omega)
   have e:hexL (UInt8.ofNat (16 * (unD a).toNat+(unD b).toNat)::r')=[hxD ((UInt8.ofNat (16 * (unD a).toNat+(unD b).toNat)).toNat / 16),hxD ((UInt8.ofNat (16 * (unD a).toNat+(unD b).toNat)).toNat % 16)]++hexL r':=by simp[hexL]
   rw[e,ih,hn,show (16 * (unD a).toNat+(unD b).toNat) / 16=(unD a).toNat by omega,show (16 * (unD a).toNat+(unD b).toNat) % 16=(unD b).toNat by omega,ea,eb]
   rfl
def rawK (k:List UInt8):List UInt8:=(unhexL k).getD []
theorem rawK_valid {k:List UInt8} (h:validB k=true):unhexL k=some (rawK k)∧(rawK k).length=32∧hexL (rawK k)=k:=by
 unfold validB at h
 unfold rawK
 cases hu:unhexL k with
 | none=>rw[hu] at h;cases h
 | some r=>rw[hu] at h;exact⟨rfl,by simpa using h,hex_unhex k r hu⟩
def rawKs (l:List (List UInt8)):List UInt8:=l.flatMap rawK
def gridD (s:ShpD):Int×Int:=if maySh s then ((s.w+7) / 8,(s.h+7) / 8) else (0,0)
structure TreeD where
 shp:ShpD
 keys:List (List UInt8)
structure CommD where
 tree:List UInt8
 pars:List (List UInt8)
 stamp:Int
 author:List UInt8
 text:List UInt8
def mayTile (s:ShpD) (n:Nat):Bool:=mayPix s n&&decide (s.w≤8)&&decide (s.h≤8)
def validAll (l:List (List UInt8)):Bool:=l.all validB
def mayTree (t:TreeD):Bool:=decide (0<(gridD t.shp).1)&&((t.keys.length:Int)==(gridD t.shp).1 * (gridD t.shp).2)&&validAll t.keys
def twins (l:List (List UInt8)):Bool:=match l with | [a,b]=>a==b | _=>false
def mayComm (c:CommD):Bool:=validB c.tree&&decide (c.pars.length≤2)&&validAll c.pars&&!twins c.pars&&decide (1≤c.stamp)&&decide (c.stamp≤1099511627776)&&Wd.nameL c.author&&Wd.textL c.text
def tileB (s:ShpD) (px:List UInt8):List UInt8:=if mayTile s px.length then 1::encP s px else []
def treeT (t:TreeD):List UInt8:=beB t.shp.w.toNat 2++beB t.shp.h.toNat 2++[UInt8.ofNat t.shp.c.toNat,UInt8.ofNat t.shp.d.toNat]++rawKs t.keys
def treeB (t:TreeD):List UInt8:=if mayTree t then 2::treeT t else []
def commT (c:CommD):List UInt8:=rawK c.tree++[UInt8.ofNat c.pars.length]++rawKs c.pars++beB c.stamp.toNat 6++(beB c.author.length 2++c.author)++(beB c.text.length 2++c.text)
def commB (c:CommD):List UInt8:=if mayComm c then 3::commT c else []
structure RdD where
 rest:List UInt8
 bad:Bool
def takeR (n:Nat) (r:RdD):List UInt8×RdD:=if r.bad=true∨r.rest.length<n then ([],⟨r.rest,true⟩) else (r.rest.take n,⟨r.rest.drop n,false⟩)
def numR (n:Nat) (r:RdD):Nat×RdD:=(beVal (takeR n r).1,(takeR n r).2)
def keysR:Nat→RdD→List (List UInt8)×RdD
 | 0,r=>([],r)
 | n+1,r=>if r.bad then ([],r) else (hexL (takeR 32 r).1::(keysR n (takeR 32 r).2).1,(keysR n (takeR 32 r).2).2)
def treeR (r:RdD):TreeD×RdD:=
 let a:=numR 2 r
 let b:=numR 2 a.2
 let c:=numR 1 b.2
 let d:=numR 1 c.2
 let s:ShpD:=⟨(a.1:Int),(b.1:Int),(c.1:Int),(d.1:Int)⟩
 let k:=keysR ((gridD s).1 * (gridD s).2).toNat d.2
 (⟨s,k.1⟩,k.2)
def commR (r:RdD):CommD×RdD:=
 let t:=takeR 32 r
 let n:=numR 1 t.2
 let k:=keysR n.1 n.2
 let s:=numR 6 k.2
 let al:=numR 2 s.2
 let a:=takeR al.1 al.2
 let tl:=numR 2 a.2
 let x:=takeR tl.1 tl.2
 (⟨hexL t.1,k.1,(s.1:Int),a.1,x.1⟩,x.2)
theorem take_here (a z:List UInt8) (n:Nat) (h:a.length=n):takeR n ⟨a++z,false⟩=(a,⟨z,false⟩):=by
 unfold takeR
 rw[if_neg (by simp;omega)]
 subst h
 simp
theorem num_here (a z:List UInt8) (n:Nat) (h:a.length=n):numR n ⟨a++z,false⟩=(beVal a,⟨z,false⟩):=by
 unfold numR;rw[take_here a z n h]
theorem keys_here:∀(l:List (List UInt8)) (z:List UInt8),validAll l=true→keysR l.length ⟨rawKs l++z,false⟩=(l,⟨z,false⟩)
 | [],z,_=>rfl
 | k::t,z,h=>by
  unfold validAll at h
  simp only[List.all_cons,Bool.and_eq_true] at h
  obtain⟨h1,h2,h3⟩:=rawK_valid h.1
  have e:rawKs (k::t)++z=rawK k++(rawKs t++z):=by simp[rawKs]
  have ih:=keys_here t z (by unfold validAll;exact h.2)
  simp only[List.length_cons,keysR]
  rw[e,take_here _ _ _ h2]
  simp only[ih,h3,if_neg (by decide:¬(false=true))]
theorem tree_here (t:TreeD) (z:List UInt8) (h:mayTree t=true):treeR ⟨treeT t++z,false⟩=(t,⟨z,false⟩):=by
 unfold mayTree at h
 simp only[Bool.and_eq_true,decide_eq_true_eq,beq_iff_eq] at h
 obtain⟨⟨h1,h2⟩,h3⟩:=h
 have hm:maySh t.shp=true:=by
  by_cases hm:maySh t.shp=true
  ·exact hm
  ·unfold gridD at h1;rw[if_neg hm] at h1;exact absurd h1 (by decide)
 have hnum:numsB t.shp=true:=by unfold maySh at hm;simp only[Bool.and_eq_true] at hm;exact hm.1
 obtain⟨hw,hh,hc,hd⟩:=(numsB_iff t.shp).1 hnum
 have e:treeT t++z=beB t.shp.w.toNat 2++(beB t.shp.h.toNat 2++([UInt8.ofNat t.shp.c.toNat]++([UInt8.ofNat t.shp.d.toNat]++(rawKs t.keys++z)))):=by simp[treeT]
 unfold treeR
 rw[e,num_here _ _ _ (beB_length _ _)]
 simp only
 rw[num_here _ _ _ (beB_length _ _)]
 simp only
 rw[num_here _ _ 1 rfl]
 simp only
 rw[num_here _ _ 1 rfl]
 simp only
 rw[be2 _ (by omega),be2 _ (by omega),be1 _ (by omega),be1 _ (by omega)]
 have es:(⟨((t.shp.w.toNat:Nat):Int),((t.shp.h.toNat:Nat):Int),((t.shp.c.toNat:Nat):Int),((t.shp.d.toNat:Nat):Int)⟩:ShpD)=t.shp:=by
  obtain⟨⟨w,h,c,d⟩,ks⟩:=t
  simp only at hw hh hc hd ⊢
  congr 1 <;> (try (rcases hd with h | h)) <;> omega
 rw[es,←h2,Int.toNat_natCast,keys_here _ _ h3]
theorem comm_here (c:CommD) (z:List UInt8) (h:mayComm c=true) (ha:c.author.length<65536) (hx:c.text.length<65536):commR ⟨commT c++z,false⟩=(c,⟨z,false⟩):=by
 unfold mayComm at h
 simp only[Bool.and_eq_true,decide_eq_true_eq,Bool.not_eq_true'] at h
 obtain⟨⟨⟨⟨⟨⟨⟨h1,h2⟩,h3⟩,-⟩,h5⟩,h6⟩,-⟩,-⟩:=h
 obtain⟨-,k2,k3⟩:=rawK_valid h1
 have e:commT c++z=rawK c.tree++([UInt8.ofNat c.pars.length]++(rawKs c.pars++(beB c.stamp.toNat 6++(beB c.author.length 2++(c.author++(beB c.text.length 2++(c.text++z))))))):=by simp[commT]
 unfold commR
 rw[e,take_here _ _ _ k2]
 simp only
 rw[num_here _ _ 1 rfl]
 simp only
 rw[be1 _ (by omega),keys_here _ _ h3]
 simp only
 rw[num_here _ _ _ (beB_length _ _)]
 simp only
 rw[num_here _ _ _ (beB_length _ _)]
 simp only
 rw[be2 _ ha,take_here _ _ _ rfl]
 simp only
 rw[num_here _ _ _ (beB_length _ _)]
 simp only
 rw[be2 _ hx,take_here _ _ _ rfl,be6 _ (by omega),k3]
 simp only
 congr 1
 obtain⟨a,b,s,d,f⟩:=c
 simp only at h5 ⊢
 congr 1
 omega
theorem encP_cons (s:ShpD) (px:List UInt8):encP s px=82::UInt8.ofNat (s.w.toNat / 256)::UInt8.ofNat s.w.toNat::UInt8.ofNat (s.h.toNat / 256)::UInt8.ofNat s.h.toNat::UInt8.ofNat s.c.toNat::UInt8.ofNat s.d.toNat::px:=by
 simp[encP,beB,leBy,List.range_succ]
theorem shpAt_app (s:ShpD) (px z:List UInt8) (hnum:numsB s=true):shpAt (encP s px++z)=s:=by
 obtain⟨hw,hh,hc,hd⟩:=(numsB_iff s).1 hnum
 have e:=encP_cons s px
 have e2:((encP s px++z).drop 1).take 2=beB s.w.toNat 2:=by rw[e];simp[beB,leBy,List.range_succ]
 have e3:((encP s px++z).drop 3).take 2=beB s.h.toNat 2:=by rw[e];simp[beB,leBy,List.range_succ]
 have e4:((encP s px++z).getD 5 0).toNat=s.c.toNat:=by rw[e];exact Wd.u8n _ (by omega)
 have e5:((encP s px++z).getD 6 0).toNat=s.d.toNat:=by rw[e];exact Wd.u8n _ (by rcases hd with h | h <;> omega)
 unfold shpAt
 rw[e2,e3,e4,e5,be2 _ (by omega),be2 _ (by omega)]
 obtain⟨w,h,c,d⟩:=s
 simp only at hw hh hc hd ⊢
 congr 1 <;> (try (rcases hd with h | h)) <;> omega
theorem mayPix_iff (s:ShpD) (n:Nat):mayPix s n=true↔maySh s=true∧(n:Int)=sizeD s:=by unfold mayPix;simp
theorem mayTile_iff (s:ShpD) (n:Nat):mayTile s n=true↔mayPix s n=true∧s.w≤8∧s.h≤8:=by unfold mayTile;simp[and_assoc]
theorem dec_enc (s:ShpD) (px:List UInt8) (hm:mayPix s px.length=true):decPL (encP s px)=(s,px,0):=by
 obtain⟨hms,hsz⟩:=(mayPix_iff s _).1 hm
 have hnum:numsB s=true:=by unfold maySh at hms;simp only[Bool.and_eq_true] at hms;exact hms.1
 have hl:=encP_len s px
 have hS:=shpAt_app s px [] hnum
 rw[List.append_nil] at hS
 have e0:((encP s px).getD 0 0).toNat=82:=by rw[encP_cons];rfl
 have e1:(encP s px).drop 7=px:=by rw[encP_cons];rfl
 unfold decPL
 rw[if_neg (by omega),hS,if_neg (fun h=>h ⟨e0,hms⟩),hl,show 7+px.length - 7=px.length by omega,if_neg (by omega),if_neg (by omega),e1]
inductive ObjD where
 | tile (s:ShpD) (px:List UInt8)
 | tree (t:TreeD)
 | comm (c:CommD)
def ObjD.kind:ObjD→Nat
 | .tile _ _=>1
 | .tree _=>2
 | .comm _=>3
def ObjD.bytes:ObjD→List UInt8
 | .tile s px=>tileB s px
 | .tree t=>treeB t
 | .comm c=>commB c
def ObjD.short:ObjD→Prop
 | .comm c=>c.author.length<65536∧c.text.length<65536
 | _=>True
def readO (b:List UInt8):Option ObjD:=
 match b with
 | []=>none
 | k::t=>if k=1 then some (.tile (decPL t).1 (decPL t).2.1) else if k=2 then some (.tree (treeR ⟨t,false⟩).1) else if k=3 then some (.comm (commR ⟨t,false⟩).1) else none
def parseO (b:List UInt8):Option ObjD:=(readO b).filter fun o=>o.bytes==b
theorem read_back (o:ObjD) (hs:o.short) (h:o.bytes≠[]):readO o.bytes=some o:=by
 cases o with
 | tile s px=>
  simp only[ObjD.bytes] at h ⊢
  unfold tileB at h ⊢
  split at h
  ·rename_i hm
   rw[if_pos hm]
   simp only[readO,if_pos]
   rw[dec_enc s px ((mayTile_iff s _).1 hm).1]
  ·exact absurd rfl h
 | tree t=>
  simp only[ObjD.bytes] at h ⊢
  unfold treeB at h ⊢
  split at h
  ·rename_i hm
   rw[if_pos hm]
   have:=tree_here t [] hm
   rw[List.append_nil] at this
   simp only[readO,if_neg (by decide:¬((2:UInt8)=1)),if_pos,this]
  ·exact absurd rfl h
 | comm c=>
  simp only[ObjD.bytes] at h ⊢
  unfold commB at h ⊢
  split at h
  ·rename_i hm
   rw[if_pos hm]
   have:=comm_here c [] hm hs.1 hs.2
   rw[List.append_nil] at this
   simp only[readO,if_neg (by decide:¬((3:UInt8)=1)),if_neg (by decide:¬((3:UInt8)=2)),if_pos,this]
  ·exact absurd rfl h
theorem parse_back (o:ObjD) (hs:o.short) (h:o.bytes≠[]):parseO o.bytes=some o:=by
 unfold parseO;rw[read_back o hs h];simp
theorem parse_bytes {b:List UInt8} {o:ObjD} (h:parseO b=some o):o.bytes=b:=by
 unfold parseO at h
 have:=Option.filter_eq_some_iff.1 h
 simpa using this.2
theorem takeR_len (n:Nat) (r:RdD):(takeR n r).1.length≤n:=by
 unfold takeR;split
 ·simp
 ·simp;omega
theorem beVal2 (n:Nat) (r:RdD) (hn:n≤2):(numR n r).1<65536:=by
 unfold numR
 have h1:=beVal_lt (takeR n r).1
 have h2:=takeR_len n r
 have h3:256^(takeR n r).1.length≤256^2:=Nat.pow_le_pow_right (by decide) (by omega)
 simp only
 omega
theorem commR_short (r:RdD):(commR r).1.author.length<65536∧(commR r).1.text.length<65536:=by
 unfold commR
 simp only
 constructor
 ·have h1:=takeR_len (numR 2 (numR 6 (keysR (numR 1 (takeR 32 r).2).1 (numR 1 (takeR 32 r).2).2).2).2).1 (numR 2 (numR 6 (keysR (numR 1 (takeR 32 r).2).1 (numR 1 (takeR 32 r).2).2).2).2).2
  have h2:=beVal2 2 (numR 6 (keysR (numR 1 (takeR 32 r).2).1 (numR 1 (takeR 32 r).2).2).2).2 (by decide)
  omega
 ·generalize (takeR (numR 2 (numR 6 (keysR (numR 1 (takeR 32 r).2).1 (numR 1 (takeR 32 r).2).2).2).2).1 (numR 2 (numR 6 (keysR (numR 1 (takeR 32 r).2).1 (numR 1 (takeR 32 r).2).2).2).2).2)=q
  have h1:=takeR_len (numR 2 q.2).1 (numR 2 q.2).2
  have h2:=beVal2 2 q.2 (by decide)
  omega
theorem parse_short {b:List UInt8} {o:ObjD} (h:parseO b=some o):o.short:=by
 unfold parseO at h
 have h1:=(Option.filter_eq_some_iff.1 h).1
 unfold readO at h1
 split at h1
 ·cases h1
 ·repeat' split at h1
  all_goals first | cases h1 | skip
  ·trivial
  ·trivial
  ·exact commR_short _
end Go.Aq
