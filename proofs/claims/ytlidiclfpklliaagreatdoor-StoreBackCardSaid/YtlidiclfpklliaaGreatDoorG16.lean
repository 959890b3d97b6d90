/- Valid WordB WordC ObPlain ObRef ObRef2 -/
import Derived.Test.YtlidiclfpklliaaGreatDoorG15
import Derived.Test.YtlidiclfpklliaaGreatDoorG14
set_option linter.unusedSimpArgs false
set_option linter.unusedVariables false
set_option maxHeartbeats 2000000
namespace Go.Aq
open Go.RowKit
theorem unD_hxD (n:Nat) (h:n<16):unD (hxD n)=(n:Int):=by
 have h':n=0∨n=1∨n=2∨n=3∨n=4∨n=5∨n=6∨n=7∨n=8∨n=9∨n=10∨n=11∨n=12∨n=13∨n=14∨n=15:=by omega
 rcases h' with rfl | rfl | rfl | rfl | rfl | rfl | rfl | rfl | rfl | rfl | rfl | rfl | rfl | rfl | rfl | rfl <;> decide
theorem unhex_hex:∀b:List UInt8,unhexL (hexL b)=some b
 | []=>rfl
 | x::t=>by
  have hx:=x.toNat_lt
  have e:hexL (x::t)=hxD (x.toNat / 16)::hxD (x.toNat % 16)::hexL t:=by simp[hexL]
  rw[e,unhexL,unD_hxD _ (by omega),unD_hxD _ (by omega),if_neg (by omega),unhex_hex t]
  simp only[Option.map_some,Int.toNat_natCast]
  rw[Nat.div_add_mod]
  simp
def validB (s:List UInt8):Bool:=match unhexL s with | some bs=>bs.length==32 | none=>false
theorem validB_hex (b:List UInt8) (h:b.length=32):validB (hexL b)=true:=by unfold validB;rw[unhex_hex];simp[h]
end Go.Aq
namespace Go.Proofs.YtlidiclfpklliaaGreatDoor
open Go.RowKit Go.Aq
theorem valid_any (w:World) (s:List UInt8) (hs:s.length≤1000000):
  Calls Tryz.prog 79 #[.string (str s)] w fun e w'=>e=.returned (.bool (validB s))∧Chg [] w w':=by
 go_enter Tryz.func79,Tryz.ntmps79
 go_wp2_with fail
 refine (unhex_any w s hs).mono ?_
 rintro e w1 (⟨bs,v',hu,rfl,hf⟩ | ⟨hu,rfl,hc⟩)
 ·obtain⟨ao,cap,rfl,hcap⟩:=hf.shape
  have hv:validB s=(bs.length==32):=by unfold validB;rw[hu]
  have HV:=zH hv
  have hc:=hf.chg
  clear hu hv hf
  generalize bs.length=k at *
  go_wp2_with fail
  go_ret
  exact⟨ret_bool (by rw[HV.out,Bool.eq_iff_iff];simp;omega),hc⟩
 ·have hv:validB s=false:=by unfold validB;rw[hu]
  have HV:=zH hv
  clear hu hv
  go_wp2_with fail
  go_ret
  exact⟨ret_bool HV.out.symm,hc⟩
end Go.Proofs.YtlidiclfpklliaaGreatDoor
namespace Go.Aq.Wd
theorem place_drop (rs:List Nat) (j:Nat):(encL rs).drop (encL (rs.take j)).length=encL (rs.drop j):=by
 conv=>lhs;arg 2;rw[←List.take_append_drop j rs,encL_append]
 exact List.drop_left
theorem place_lt (rs:List Nat) (j:Nat) (hj:j≤rs.length):(encL (rs.take j)).length<(encL rs).length↔j<rs.length:=by
 have h:(encL rs).length=(encL (rs.take j)).length+(encL (rs.drop j)).length:=by rw[←List.length_append,←encL_append,List.take_append_drop]
 constructor
 ·intro hl
  by_cases h2:j<rs.length
  ·exact h2
  ·have e0:(encL ([]:List Nat)).length=0:=rfl
   rw[List.drop_eq_nil_of_le (by omega),e0] at h;omega
 ·intro hl
  rw[List.drop_eq_getElem_cons hl,encL_cons,List.length_append] at h
  have:=enc1_len rs[j]
  omega
theorem place_step (rs:List Nat) (ok:∀c∈rs,okR c) (j:Nat) (hj:j<rs.length):
  dec ((encL rs).drop (encL (rs.take j)).length)=(rs[j],(enc1 rs[j]).length)∧(encL (rs.take (j+1))).length=(encL (rs.take j)).length+(enc1 rs[j]).length:=by
 refine⟨?_,?_⟩
 ·rw[place_drop,List.drop_eq_getElem_cons hj,encL_cons]
  exact dec_enc _ (ok _ (List.getElem_mem hj)) _
 ·rw[List.take_succ_eq_append_getElem hj,encL_append,List.length_append]
  simp[encL]
theorem okR_le {c:Nat} (h:okR c):c≤2000000:=by unfold okR at h;omega
end Go.Aq.Wd
namespace Go.Proofs.YtlidiclfpklliaaGreatDoor
open Go.RowKit Go.Aq Go.Aq.Wd
theorem text_any (l:List UInt8) (w:World) (hT:Tabs w) (hl:l.length≤1000000000):
  Calls Tryz.prog 387 #[.string (str l)] w fun e w'=>e=.returned (.bool (textL l))∧Chg [] w w':=by
 have hsz:=str_size l
 have hca:=count_any l w hT hl
 cases hs:sigs l with
 | none=>
  have hcl:countL l=(0,4):=by unfold countL;rw[hs]
  have hp:textL l=false:=by unfold textL;rw[hs]
  rw[hp]
  rw[hcl] at hca
  go_enter Tryz.func387,Tryz.ntmps387
  go_wp2_with fail
  refine hca.mono ?_
  rintro e w1 ⟨rfl,c1⟩
  go_wp2_with fail
  go_ret
  exact⟨rfl,c1⟩
 | some rs=>
  have hcl:=countL_of hs
  have hp:=textL_of hs
  obtain⟨he,ok⟩:=sigs_enc hs
  rw[hp]
  rw[hcl] at hca
  have hca:Calls Tryz.prog 217 #[.string (str l)] w fun e w'=>e=.returned (.tuple #[.int .i64 (rs.length:Nat),.int .i64 0])∧Chg [] w w':=hca
  by_cases h1:rs.length≤200
  ·have t1:decide (200<(rs.length:Int))=false:=by simp;omega
   have t1':decide (200<rs.length)=false:=by simp;omega
   have hR:textR rs=rs.all fun c=>!low c || c==10:=by unfold textR;simp[h1]
   rw[hR]
   have HOK:=zH ok
   have HE:=zH he
   clear ok he hp hcl hs h1 hR
   go_enter Tryz.func387,Tryz.ntmps387
   go_wp2_with fail
   refine hca.mono ?_
   rintro e w1 ⟨rfl,c1⟩
   obtain⟨K,hK⟩:∃K,w1.heap.size=K:=⟨_,rfl⟩
   clear hca
   go_wp2_with fail
   go_loopg [] l.length (fun k wr=>∃(pos j:Nat),pos+k=l.length∧j≤rs.length∧pos=(encL (rs.take j)).length∧wr.heap[K]?=some (.stringIter (str l) pos)∧Chg [] w1 wr∧(rs.take j).all (fun c=>!low c || c==10)=true)
   case atStart=>
    refine⟨0,0,by omega,by omega,by simp[encL],?_,(Chg.refl _ _).range _ _,rfl⟩
    rw[←hK];exact World.iter_heap w1 (str l) 0
   case round=>
    obtain⟨pos,j,hpk,hjl,hpos,hit,hc,hall⟩:=hrel
    have hlt:=place_lt rs j hjl
    rw[←hpos,←HE.out] at hlt
    by_cases hp:pos<l.length
    ·have hj:=hlt.1 hp
     have hnx:=fun ty=>next_at l wr K pos hit hp ty
     obtain⟨hd,hnp⟩:=place_step rs HOK.out j hj
     rw[←hpos,←HE.out] at hd
     rw[←hpos] at hnp
     have hfit:=dec_fits l pos hp
     have hdp:=dec_pos (l.drop pos)
     have hd1:=dec_fst (l.drop pos)
     have hcn:=hc.iterAt (k:=K) (.inr (by omega)) (str l) (pos+(dec (l.drop pos)).2)
     have hitn:=Lib.iterAt_heap wr K (str l) pos (pos+(dec (l.drop pos)).2) hit
     have hts:=List.take_succ_eq_append_getElem hj
     have hmem:rs[j]∈rs:=List.getElem_mem hj
     rw[hd] at hnx hcn hitn hfit hdp hd1
     generalize rs[j]=c at *
     generalize (enc1 c).length=nn at *
     simp only at hnx hcn hitn hfit hdp hd1
     generalize wr.iterAt K (str l) (pos+nn)=w2 at *
     have HP:=zA hpk hnp
     have HA:=zB hall hts hmem
     clear hd hit hc hlt hpk hnp hpos hall hts hmem
     by_cases hf:(!low c || c==10)=true
     ·by_cases hlow:low c=true
      ·have h10:c=10:=by simpa[hlow] using hf
       subst h10
       go_wp2_with fail
       refine (low_any 10 (by omega) w2).mono ?_
       rintro e w3 ⟨rfl,rfl⟩
       rw[hlow]
       go_wp2_with fail
       go_roundg (gk - nn)
       case measure=>have:=HP.out;omega
       case rel=>exact⟨pos+nn,j+1,by have:=HP.out;omega,by omega,HP.out.2.symm,hitn,hcn,by rw[HA.out.2.1,List.all_append,HA.out.1];simp⟩
      ·have hlow':low c=false:=by simpa using hlow
       go_wp2_with fail
       refine (low_any c (by omega) w2).mono ?_
       rintro e w3 ⟨rfl,rfl⟩
       rw[hlow']
       go_wp2_with fail
       go_roundg (gk - nn)
       case measure=>have:=HP.out;omega
       case rel=>exact⟨pos+nn,j+1,by have:=HP.out;omega,by omega,HP.out.2.symm,hitn,hcn,by rw[HA.out.2.1,List.all_append,HA.out.1];simp[hlow']⟩
     ·have hlow:low c=true:=by
       cases h:low c with
       | true=>rfl
       | false=>simp[h] at hf
      have h10:c≠10:=by rintro rfl;simp at hf
      have t10:((c:Int) != 10)=true:=by simp;omega
      have t10':((c:Int)==10)=false:=by simp;omega
      have hR:(rs.all fun c=>!low c || c==10)=false:=by
       rw[List.all_eq_false]
       exact⟨c,HA.out.2.2,hf⟩
      have HR:=zH hR
      clear hR hf
      go_wp2_with fail
      refine (low_any c (by omega) w2).mono ?_
      rintro e w3 ⟨rfl,rfl⟩
      rw[hlow]
      go_wp2_with fail
      go_ret
      exact⟨by rw[HR.out];rfl,c1.nil hcn⟩
    ·have hnx:=fun ty=>next_end l wr K pos hit hp ty
     have hj:rs.length≤j:=by have:=mt hlt.2 hp;omega
     rw[List.take_of_length_le hj] at hall
     have HA:=zH hall
     clear hpos hlt hall
     go_wp2_with fail
     go_ret
     exact⟨by rw[HA.out];rfl,c1.nil hc⟩
  ·have t1:decide (200<(rs.length:Int))=true:=by simp;omega
   have t1':decide (200<rs.length)=true:=by simp;omega
   have hR:textR rs=false:=by unfold textR;simp[h1]
   rw[hR]
   clear ok he hp hcl hs h1 hR
   go_enter Tryz.func387,Tryz.ntmps387
   go_wp2_with fail
   refine hca.mono ?_
   rintro e w1 ⟨rfl,c1⟩
   go_wp2_with fail
   go_ret
   exact⟨rfl,c1⟩
end Go.Proofs.YtlidiclfpklliaaGreatDoor
namespace Go.Aq.Wd
theorem Pre_not {l:List UInt8} {pos:Nat} {pre:List Nat} (h:sigs l=(sigs (l.drop pos)).map (pre++·)) (hp:l.drop pos≠[]) (hb:letter (dec (l.drop pos)).1=false):nameL l=false:=by
 unfold nameL
 rw[h,sigs_step _ hp]
 cases hbd:bad (dec (l.drop pos)) with
 | true=>simp
 | false=>
  simp only[Bool.false_eq_true,if_false]
  cases sigs ((l.drop pos).drop (dec (l.drop pos)).2) with
  | none=>rfl
  | some t=>
   simp only[Option.map_some]
   have:(pre++(dec (l.drop pos)).1::t).all letter=false:=by
    rw[List.all_eq_false]
    exact⟨(dec (l.drop pos)).1,by simp,by rw[hb];simp⟩
   simp only[nameR,this,Bool.and_false,Bool.false_and]
theorem letter_bad (d:Nat×Nat) (h:letter d.1=true):bad d=false:=by
 refine not_bad d.1 d.2 ?_
 rintro⟨h1,-⟩
 rw[h1] at h
 revert h;decide
theorem headD_get (l:List UInt8) (h:0<l.length):l.headD 0=l[0]:=by cases l;(simp at h);rfl
theorem lastD_get (l:List UInt8) (h:l.length - 1<l.length):l.getLastD 0=l[l.length - 1]:=by
 rw[List.getLastD_eq_getLast?,List.getLast?_eq_getElem?,List.getElem?_eq_getElem h];rfl
theorem name_tail (l:List UInt8) (rs:List Nat) (hs:sigs l=some rs) (h1:1≤rs.length) (h2:rs.length≤40) (hall:rs.all letter=true):
  has2 l=dbl rs∧0<l.length∧(dbl rs=true→nameL l=false)∧
  (dbl rs=false→nameL l=(!headBad (l.headD 0).toNat&&!lastBad (l.getLastD 0).toNat)):=by
 obtain⟨he,ok⟩:=sigs_enc hs
 have hne:rs≠[]:=by rintro rfl;simp at h1
 have hlen:0<l.length:=by
  rw[he]
  cases rs with
  | nil=>exact absurd rfl hne
  | cons c t=>rw[encL_cons,List.length_append];have:=enc1_len c;omega
 have hh:∀k,k<128→0<k→((l.headD 0).toNat=k↔rs.headD 0=k):=fun k hk hk0=>by
  rw[←head_encL rs ok k hk hk0,←he]
  constructor
  ·intro e;exact (u8e _ _ e).symm
  ·intro e;rw[e,u8n k (by omega)]
 have hl:∀k,k<128→0<k→((l.getLastD 0).toNat=k↔rs.getLastD 0=k):=fun k hk hk0=>by
  rw[←last_encL rs hne ok k hk hk0,←he]
  constructor
  ·intro e;exact (u8e _ _ e).symm
  ·intro e;rw[e,u8n k (by omega)]
 refine⟨by rw[←has2_encL rs ok,←he],hlen,fun hd=>?_,fun hd=>?_⟩
 ·rw[nameL_of hs];simp only[nameR,hd,Bool.not_true,Bool.and_false,Bool.false_and]
 ·rw[nameL_of hs]
  have e1:headBad (l.headD 0).toNat=headBad (rs.headD 0):=by
   rw[Bool.eq_iff_iff];simp only[headBad,Bool.or_eq_true,beq_iff_eq]
   rw[hh 45 (by decide) (by decide),hh 46 (by decide) (by decide),hh 47 (by decide) (by decide)]
  have e2:lastBad (l.getLastD 0).toNat=lastBad (rs.getLastD 0):=by
   rw[Bool.eq_iff_iff];simp only[lastBad,Bool.or_eq_true,beq_iff_eq]
   rw[hl 46 (by decide) (by decide),hl 47 (by decide) (by decide)]
  rw[e1,e2]
  simp only[nameR,hd,hall,h1,h2]
  simp
end Go.Aq.Wd
namespace Go.Proofs.YtlidiclfpklliaaGreatDoor
open Go.RowKit Go.Aq Go.Aq.Wd
theorem contains2 (l:List UInt8) (w:World) (hT:Tabs w) (hl:l.length≤1000000000):
  Calls Tryz.prog 276 #[.string (str l),.string ⟨#[47,47]⟩] w fun e w'=>e=.returned (.bool (has2 l))∧w'=w:=by
 obtain⟨-,⟨m,hm⟩,-⟩:=hT
 exact Tryz.strings_Contains (str l) (str [47,47]) m w (by rw[str_size];omega) hm
theorem name_any (l:List UInt8) (w:World) (hT:Tabs w) (hl:l.length≤1000000000):
  Calls Tryz.prog 215 #[.string (str l)] w fun e w'=>e=.returned (.bool (nameL l))∧Chg [] w w':=by
 have hsz:=str_size l
 obtain⟨K,hK⟩:∃K,w.heap.size=K:=⟨_,rfl⟩
 go_enter Tryz.func215,Tryz.ntmps215
 go_wp2_with fail
 go_loopg [3] l.length (fun k vn wr=>∃(pos:Nat) (pre:List Nat),vn=.int .i64 pre.length∧pos+k=l.length∧pre.length≤pos∧wr.heap[K]?=some (.stringIter (str l) pos)∧Chg [] w wr∧Pre l pos pre∧pre.all letter=true)
 case atStart=>
  refine⟨0,[],rfl,by omega,by simp,?_,(Chg.refl _ _).range _ _,Pre.zero l,rfl⟩
  rw[←hK];exact World.iter_heap w (str l) 0
 case round=>
  obtain⟨pos,pre,rfl,hpk,hpl,hit,hc,hpre,hall⟩:=hrel
  have hpb:pre.length≤1000000000:=by omega
  have hpb':(pre.length:Int)≤1000000000:=by omega
  by_cases hp:pos<l.length
  ·have hnx:=fun ty=>next_at l wr K pos hit hp ty
   have hfit:=dec_fits l pos hp
   have hdp:=dec_pos (l.drop pos)
   have hd1:=dec_fst (l.drop pos)
   have hcn:=hc.iterAt (k:=K) (.inr (by omega)) (str l) (pos+(dec (l.drop pos)).2)
   have hitn:=Lib.iterAt_heap wr K (str l) pos (pos+(dec (l.drop pos)).2) hit
   have hst:=hpre.step hp
   have hno:=Pre_not hpre (drop_ne l pos hp)
   generalize dec (l.drop pos)=d at *
   obtain⟨c,n⟩:=d
   simp only at *
   generalize wr.iterAt K (str l) (pos+n)=w1 at *
   have HST:=zH hst
   have HNO:=zH hno
   have HP:=zB hpk hpl hall
   clear hst hno hpre hit hc hpk hpl hall
   by_cases hlt:letter c=true
   ·have hg:=HST.out (letter_bad (c,n) hlt)
    go_wp2_with fail
    refine (letter_any c (by omega) w1).mono ?_
    rintro e w2 ⟨rfl,rfl⟩
    rw[hlt]
    go_wp2_with fail
    go_roundg (gk - n)
    case measure=>have:=HP.out.1;omega
    case rel=>exact⟨pos+n,pre++[c],by simp,by have:=HP.out.1;omega,by have:=HP.out.2.1;simp;omega,hitn,hcn,hg,by rw[List.all_append,HP.out.2.2];simp[hlt]⟩
   ·have hlt':letter c=false:=by simpa using hlt
    go_wp2_with fail
    refine (letter_any c (by omega) w1).mono ?_
    rintro e w2 ⟨rfl,rfl⟩
    rw[hlt']
    go_wp2_with fail
    go_ret
    exact⟨by rw[HNO.out hlt'];rfl,hcn⟩
  ·have hnx:=fun ty=>next_end l wr K pos hit hp ty
   have hs:=hpre.all hp
   have hnt:=name_tail l pre hs
   have hnm:=nameL_of hs
   have HNT:=zH hnt
   have HNM:=zH hnm
   have HALL:=zH hall
   have hTr:=hT.chg hc
   clear hpre hall hs hnt hnm
   by_cases h1:pre.length<1
   ·have t1:decide ((pre.length:Int)<1)=true:=by simp;omega
    have t1':decide (pre.length<1)=true:=decide_eq_true (by omega)
    have h0:pre.length=0:=by omega
    have hf:nameL l=false:=by rw[HNM.out];simp[nameR,h0]
    have HF:=zH hf
    clear hf
    go_wp2_with fail
    go_ret
    exact⟨by rw[HF.out];rfl,hc⟩
   ·have t1:decide ((pre.length:Int)<1)=false:=by simp;omega
    have t1':decide (pre.length<1)=false:=decide_eq_false (by omega)
    by_cases h2:40<pre.length
    ·have t2:decide (40<(pre.length:Int))=true:=by simp;omega
     have t2':decide (40<pre.length)=true:=by simp;omega
     have h0:¬pre.length≤40:=by omega
     have hf:nameL l=false:=by rw[HNM.out];simp[nameR,h0]
     have HF:=zH hf
     clear hf
     go_wp2_with fail
     go_ret
     exact⟨by rw[HF.out];rfl,hc⟩
    ·have t2:decide (40<(pre.length:Int))=false:=by simp;omega
     have t2':decide (40<pre.length)=false:=by simp;omega
     have HC2:=contains2 l wr hTr hl
     obtain⟨n1,n2,n3,n4⟩:=HNT.out (by omega) (by omega) HALL.out
     have HN:=zA n3 n4
     clear n3 n4 HNT HNM h1 h2
     cases hd:dbl pre with
     | true=>
      have hf:=HN.out.1 hd
      have HF:=zH hf
      rw[hd] at n1
      clear hf HN
      go_wp2_with fail
      refine HC2.mono ?_
      rintro e w2 ⟨rfl,rfl⟩
      rw[n1]
      go_wp2_with fail
      go_ret
      exact⟨by rw[HF.out];rfl,hc⟩
     | false=>
      have hf:=HN.out.2 hd
      have hlen1:l.length - 1<l.length:=by omega
      rw[headD_get l n2,lastD_get l hlen1] at hf
      rw[hd] at n1
      have g0:∀h,(str l)[0]'h=l[0]:=fun h=>rfl
      obtain⟨m,hm⟩:∃m,l.length=m+1:=⟨l.length - 1,by omega⟩
      have g1:∀h,(str l)[m]'h=l[l.length - 1]:=fun h=>by simp[str,ByteArray.getElem_eq_getElem_data,hm]
      have i1:∀w,(Instr.index 9 (.string (str l)) (.int .i64 0)).run Tryz.prog w=.ok (.int .u8 ((l[0]).toNat:Int)) w:=fun w=>idxS w l 0 n2
      have i2:=fun w=>idxS w l m (by omega)
      have e2:l[m]'(by omega)=l[l.length - 1]:=by congr 1;omega
      rw[e2] at i2
      have hmb:m≤1000000000:=by omega
      have hmi:(m:Int)≤1000000000:=by omega
      have hw:IntKind.i64.wrap ((l.length:Int) - 1)=(m:Int):=by rw[show (l.length:Int) - 1=(m:Int) by omega];exact wrap_i64_nat m (by omega)
      have b1:=(l[0]).toNat_lt
      have b2:=(l[l.length - 1]).toNat_lt
      generalize l[0]=x8 at *
      generalize l[l.length - 1]=y8 at *
      have HM:=zH hm
      clear e2 hm hlen1 n2 hp g0 g1
      have HF:=zH hf
      clear hf HN
      go_wp2_with fail
      refine HC2.mono ?_
      rintro e w2 ⟨rfl,rfl⟩
      rw[n1]
      go_wp2_with fail
      go_quiet (fail)
      have hcq:=hc.drewN nq
      generalize w2.drewN nq=w3 at *
      go_wp2_with fail
      all_goals go_ret
      all_goals refine⟨rb ?_,hcq⟩
      all_goals rw[HF.out]
      all_goals (try simp only[bne_iff_ne,bne_eq_false_iff_eq,beq_iff_eq,beq_eq_false_iff_ne,ne_eq] at *)
      all_goals (rw[Bool.eq_iff_iff];simp only[headBad,lastBad,Bool.and_eq_true,Bool.not_eq_true',Bool.or_eq_false_iff,beq_eq_false_iff_ne,bne_iff_ne,ne_eq,Bool.false_eq_true,false_iff];omega)
end Go.Proofs.YtlidiclfpklliaaGreatDoor
namespace Go.Aq
theorem be1 (n:Nat) (hn:n<256):beVal [UInt8.ofNat n]=n:=by
 have h1:=Wd.u8n n hn
 simp only[beVal,List.foldl_cons,List.foldl_nil,h1];omega
theorem be2 (n:Nat) (hn:n<65536):beVal (beB n 2)=n:=by
 have e:beB n 2=[UInt8.ofNat (n / 256),UInt8.ofNat n]:=by
  simp[beB,leBy,List.range_succ]
 rw[e]
 have h1:=Wd.u8n (n / 256) (by omega)
 have h2:(UInt8.ofNat n).toNat=n % 256:=UInt8.toNat_ofNat'
 simp only[beVal,List.foldl_cons,List.foldl_nil,h1,h2]
 omega
theorem be6 (n:Nat) (hn:n<281474976710656):beVal (beB n 6)=n:=by
 have e:beB n 6=[UInt8.ofNat (n / 1099511627776),UInt8.ofNat (n / 4294967296),UInt8.ofNat (n / 16777216),UInt8.ofNat (n / 65536),UInt8.ofNat (n / 256),UInt8.ofNat n]:=by
  simp[beB,leBy,List.range_succ]
 rw[e]
 have h (m:Nat):(UInt8.ofNat m).toNat=m % 256:=UInt8.toNat_ofNat'
 simp only[beVal,List.foldl_cons,List.foldl_nil,h]
 omega
theorem hx_un (a:UInt8) (h:¬unD a<0):hxD (unD a).toNat=a∧(unD a).toNat<16:=by
 have key:∀n,n<256→unD (UInt8.ofNat n)<0∨(hxD (unD (UInt8.ofNat n)).toNat=UInt8.ofNat n∧(unD (UInt8.ofNat n)).toNat<16):=by decide+kernel
 have:=key a.toNat a.toNat_lt
 rw[UInt8.ofNat_toNat] at this
 exact this.resolve_left h
theorem hex_unhex:∀(l r:List UInt8),unhexL l=some r→hexL r=l
 | [],r,h=>by simp[unhexL] at h;subst h;rfl
 | [_],r,h=>by simp[unhexL] at h
 | a::b::t,r,h=>by
  simp only[unhexL] at h
  split at h
  ·simp at h
  ·rename_i hab
   obtain⟨r',h1,rfl⟩:=Option.map_eq_some_iff.1 h
   have ih:=hex_unhex t r' h1
   obtain⟨ea,la⟩:=hx_un a fun h=>hab (.inl h)
   obtain⟨eb,lb⟩:=hx_un b fun h=>hab (.inr h)
   have hn:=Wd.u8n (16 * (unD a).toNat+(unD b).toNat) (by omega)
   have e:hexL (UInt8.ofNat (16 * (unD a).toNat+(unD b).toNat)::r')=[hxD ((UInt8.ofNat (16 * (unD a).toNat+(unD b).toNat)).toNat / 16),hxD ((UInt8.ofNat (16 * (unD a).toNat+(unD b).toNat)).toNat % 16)]++hexL r':=by simp[hexL]
   rw[e,ih,hn,show (16 * (unD a).toNat+(unD b).toNat) / 16=(unD a).toNat by omega,show (16 * (unD a).toNat+(unD b).toNat) % 16=(unD b).toNat by omega,ea,eb]
   rfl
def rawK (k:List UInt8):List UInt8:=(unhexL k).getD []
theorem rawK_valid {k:List UInt8} (h:validB k=true):unhexL k=some (rawK k)∧(rawK k).length=32∧hexL (rawK k)=k:=by
 unfold validB at h
 unfold rawK
 cases hu:unhexL k with
 | none=>rw[hu] at h;cases h
 | some r=>rw[hu] at h;exact⟨rfl,by simpa using h,hex_unhex k r hu⟩
def rawKs (l:List (List UInt8)):List UInt8:=l.flatMap rawK
def gridD (s:ShpD):Int×Int:=if maySh s then ((s.w+7) / 8,(s.h+7) / 8) else (0,0)
structure TreeD where
 shp:ShpD
 keys:List (List UInt8)
structure CommD where
 tree:List UInt8
 pars:List (List UInt8)
 stamp:Int
 author:List UInt8
 text:List UInt8
def mayTile (s:ShpD) (n:Nat):Bool:=mayPix s n&&decide (s.w≤8)&&decide (s.h≤8)
def validAll (l:List (List UInt8)):Bool:=l.all validB
def mayTree (t:TreeD):Bool:=decide (0<(gridD t.shp).1)&&((t.keys.length:Int)==(gridD t.shp).1 * (gridD t.shp).2)&&validAll t.keys
def twins (l:List (List UInt8)):Bool:=match l with | [a,b]=>a==b | _=>false
def mayComm (c:CommD):Bool:=validB c.tree&&decide (c.pars.length≤2)&&validAll c.pars&&!twins c.pars&&decide (1≤c.stamp)&&decide (c.stamp≤1099511627776)&&Wd.nameL c.author&&Wd.textL c.text
def tileB (s:ShpD) (px:List UInt8):List UInt8:=if mayTile s px.length then 1::encP s px else []
def treeT (t:TreeD):List UInt8:=beB t.shp.w.toNat 2++beB t.shp.h.toNat 2++[UInt8.ofNat t.shp.c.toNat,UInt8.ofNat t.shp.d.toNat]++rawKs t.keys
def treeB (t:TreeD):List UInt8:=if mayTree t then 2::treeT t else []
def commT (c:CommD):List UInt8:=rawK c.tree++[UInt8.ofNat c.pars.length]++rawKs c.pars++beB c.stamp.toNat 6++(beB c.author.length 2++c.author)++(beB c.text.length 2++c.text)
def commB (c:CommD):List UInt8:=if mayComm c then 3::commT c else []
structure RdD where
 rest:List UInt8
 bad:Bool
def takeR (n:Nat) (r:RdD):List UInt8×RdD:=if r.bad=true∨r.rest.length<n then ([],⟨r.rest,true⟩) else (r.rest.take n,⟨r.rest.drop n,false⟩)
def numR (n:Nat) (r:RdD):Nat×RdD:=(beVal (takeR n r).1,(takeR n r).2)
def keysR:Nat→RdD→List (List UInt8)×RdD
 | 0,r=>([],r)
 | n+1,r=>if r.bad then ([],r) else (hexL (takeR 32 r).1::(keysR n (takeR 32 r).2).1,(keysR n (takeR 32 r).2).2)
def treeR (r:RdD):TreeD×RdD:=
 let a:=numR 2 r
 let b:=numR 2 a.2
 let c:=numR 1 b.2
 let d:=numR 1 c.2
 let s:ShpD:=⟨(a.1:Int),(b.1:Int),(c.1:Int),(d.1:Int)⟩
 let k:=keysR ((gridD s).1 * (gridD s).2).toNat d.2
 (⟨s,k.1⟩,k.2)
def commR (r:RdD):CommD×RdD:=
 let t:=takeR 32 r
 let n:=numR 1 t.2
 let k:=keysR n.1 n.2
 let s:=numR 6 k.2
 let al:=numR 2 s.2
 let a:=takeR al.1 al.2
 let tl:=numR 2 a.2
 let x:=takeR tl.1 tl.2
 (⟨hexL t.1,k.1,(s.1:Int),a.1,x.1⟩,x.2)
theorem take_here (a z:List UInt8) (n:Nat) (h:a.length=n):takeR n ⟨a++z,false⟩=(a,⟨z,false⟩):=by
 unfold takeR
 rw[if_neg (by simp;omega)]
 subst h
 simp
theorem num_here (a z:List UInt8) (n:Nat) (h:a.length=n):numR n ⟨a++z,false⟩=(beVal a,⟨z,false⟩):=by
 unfold numR;rw[take_here a z n h]
theorem keys_here:∀(l:List (List UInt8)) (z:List UInt8),validAll l=true→keysR l.length ⟨rawKs l++z,false⟩=(l,⟨z,false⟩)
 | [],z,_=>rfl
 | k::t,z,h=>by
  unfold validAll at h
  simp only[List.all_cons,Bool.and_eq_true] at h
  obtain⟨h1,h2,h3⟩:=rawK_valid h.1
  have e:rawKs (k::t)++z=rawK k++(rawKs t++z):=by simp[rawKs]
  have ih:=keys_here t z (by unfold validAll;exact h.2)
  simp only[List.length_cons,keysR]
  rw[e,take_here _ _ _ h2]
  simp only[ih,h3,if_neg (by decide:¬(false=true))]
theorem tree_here (t:TreeD) (z:List UInt8) (h:mayTree t=true):treeR ⟨treeT t++z,false⟩=(t,⟨z,false⟩):=by
 unfold mayTree at h
 simp only[Bool.and_eq_true,decide_eq_true_eq,beq_iff_eq] at h
 obtain⟨⟨h1,h2⟩,h3⟩:=h
 have hm:maySh t.shp=true:=by
  by_cases hm:maySh t.shp=true
  ·exact hm
  ·unfold gridD at h1;rw[if_neg hm] at h1;exact absurd h1 (by decide)
 have hnum:numsB t.shp=true:=by unfold maySh at hm;simp only[Bool.and_eq_true] at hm;exact hm.1
 obtain⟨hw,hh,hc,hd⟩:=(numsB_iff t.shp).1 hnum
 have e:treeT t++z=beB t.shp.w.toNat 2++(beB t.shp.h.toNat 2++([UInt8.ofNat t.shp.c.toNat]++([UInt8.ofNat t.shp.d.toNat]++(rawKs t.keys++z)))):=by simp[treeT]
 unfold treeR
 rw[e,num_here _ _ _ (beB_length _ _)]
 simp only
 rw[num_here _ _ _ (beB_length _ _)]
 simp only
 rw[num_here _ _ 1 rfl]
 simp only
 rw[num_here _ _ 1 rfl]
 simp only
 rw[be2 _ (by omega),be2 _ (by omega),be1 _ (by omega),be1 _ (by omega)]
 have es:(⟨((t.shp.w.toNat:Nat):Int),((t.shp.h.toNat:Nat):Int),((t.shp.c.toNat:Nat):Int),((t.shp.d.toNat:Nat):Int)⟩:ShpD)=t.shp:=by
  obtain⟨⟨w,h,c,d⟩,ks⟩:=t
  simp only at hw hh hc hd ⊢
  congr 1 <;> (try (rcases hd with h | h)) <;> omega
 rw[es,←h2,Int.toNat_natCast,keys_here _ _ h3]
theorem comm_here (c:CommD) (z:List UInt8) (h:mayComm c=true) (ha:c.author.length<65536) (hx:c.text.length<65536):commR ⟨commT c++z,false⟩=(c,⟨z,false⟩):=by
 unfold mayComm at h
 simp only[Bool.and_eq_true,decide_eq_true_eq,Bool.not_eq_true'] at h
 obtain⟨⟨⟨⟨⟨⟨⟨h1,h2⟩,h3⟩,-⟩,h5⟩,h6⟩,-⟩,-⟩:=h
 obtain⟨-,k2,k3⟩:=rawK_valid h1
 have e:commT c++z=rawK c.tree++([UInt8.ofNat c.pars.length]++(rawKs c.pars++(beB c.stamp.toNat 6++(beB c.author.length 2++(c.author++(beB c.text.length 2++(c.text++z))))))):=by simp[commT]
 unfold commR
 rw[e,take_here _ _ _ k2]
 simp only
 rw[num_here _ _ 1 rfl]
 simp only
 rw[be1 _ (by omega),keys_here _ _ h3]
 simp only
 rw[num_here _ _ _ (beB_length _ _)]
 simp only
 rw[num_here _ _ _ (beB_length _ _)]
 simp only
 rw[be2 _ ha,take_here _ _ _ rfl]
 simp only
 rw[num_here _ _ _ (beB_length _ _)]
 simp only
 rw[be2 _ hx,take_here _ _ _ rfl,be6 _ (by omega),k3]
 simp only
 congr 1
 obtain⟨a,b,s,d,f⟩:=c
 simp only at h5 ⊢
 congr 1
 omega
theorem encP_cons (s:ShpD) (px:List UInt8):encP s px=82::UInt8.ofNat (s.w.toNat / 256)::UInt8.ofNat s.w.toNat::UInt8.ofNat (s.h.toNat / 256)::UInt8.ofNat s.h.toNat::UInt8.ofNat s.c.toNat::UInt8.ofNat s.d.toNat::px:=by
 simp[encP,beB,leBy,List.range_succ]
theorem shpAt_app (s:ShpD) (px z:List UInt8) (hnum:numsB s=true):shpAt (encP s px++z)=s:=by
 obtain⟨hw,hh,hc,hd⟩:=(numsB_iff s).1 hnum
 have e:=encP_cons s px
 have e2:((encP s px++z).drop 1).take 2=beB s.w.toNat 2:=by rw[e];simp[beB,leBy,List.range_succ]
 have e3:((encP s px++z).drop 3).take 2=beB s.h.toNat 2:=by rw[e];simp[beB,leBy,List.range_succ]
 have e4:((encP s px++z).getD 5 0).toNat=s.c.toNat:=by rw[e];exact Wd.u8n _ (by omega)
 have e5:((encP s px++z).getD 6 0).toNat=s.d.toNat:=by rw[e];exact Wd.u8n _ (by rcases hd with h | h <;> omega)
 unfold shpAt
 rw[e2,e3,e4,e5,be2 _ (by omega),be2 _ (by omega)]
 obtain⟨w,h,c,d⟩:=s
 simp only at hw hh hc hd ⊢
 congr 1 <;> (try (rcases hd with h | h)) <;> omega
theorem mayPix_iff (s:ShpD) (n:Nat):mayPix s n=true↔maySh s=true∧(n:Int)=sizeD s:=by unfold mayPix;simp
theorem mayTile_iff (s:ShpD) (n:Nat):mayTile s n=true↔mayPix s n=true∧s.w≤8∧s.h≤8:=by unfold mayTile;simp[and_assoc]
theorem dec_enc (s:ShpD) (px:List UInt8) (hm:mayPix s px.length=true):decPL (encP s px)=(s,px,0):=by
 obtain⟨hms,hsz⟩:=(mayPix_iff s _).1 hm
 have hnum:numsB s=true:=by unfold maySh at hms;simp only[Bool.and_eq_true] at hms;exact hms.1
 have hl:=encP_len s px
 have hS:=shpAt_app s px [] hnum
 rw[List.append_nil] at hS
 have e0:((encP s px).getD 0 0).toNat=82:=by rw[encP_cons];rfl
 have e1:(encP s px).drop 7=px:=by rw[encP_cons];rfl
 unfold decPL
 rw[if_neg (by omega),hS,if_neg (fun h=>h ⟨e0,hms⟩),hl,show 7+px.length - 7=px.length by omega,if_neg (by omega),if_neg (by omega),e1]
inductive ObjD where
 | tile (s:ShpD) (px:List UInt8)
 | tree (t:TreeD)
 | comm (c:CommD)
def ObjD.kind:ObjD→Nat
 | .tile _ _=>1
 | .tree _=>2
 | .comm _=>3
def ObjD.bytes:ObjD→List UInt8
 | .tile s px=>tileB s px
 | .tree t=>treeB t
 | .comm c=>commB c
def ObjD.short:ObjD→Prop
 | .comm c=>c.author.length<65536∧c.text.length<65536
 | _=>True
def readO (b:List UInt8):Option ObjD:=
 match b with
 | []=>none
 | k::t=>if k=1 then some (.tile (decPL t).1 (decPL t).2.1) else if k=2 then some (.tree (treeR ⟨t,false⟩).1) else if k=3 then some (.comm (commR ⟨t,false⟩).1) else none
def parseO (b:List UInt8):Option ObjD:=(readO b).filter fun o=>o.bytes==b
theorem read_back (o:ObjD) (hs:o.short) (h:o.bytes≠[]):readO o.bytes=some o:=by
 cases o with
 | tile s px=>
  simp only[ObjD.bytes] at h ⊢
  unfold tileB at h ⊢
  split at h
  ·rename_i hm
   rw[if_pos hm]
   simp only[readO,if_pos]
   rw[dec_enc s px ((mayTile_iff s _).1 hm).1]
  ·exact absurd rfl h
 | tree t=>
  simp only[ObjD.bytes] at h ⊢
  unfold treeB at h ⊢
  split at h
  ·rename_i hm
   rw[if_pos hm]
   have:=tree_here t [] hm
   rw[List.append_nil] at this
   simp only[readO,if_neg (by decide:¬((2:UInt8)=1)),if_pos,this]
  ·exact absurd rfl h
 | comm c=>
  simp only[ObjD.bytes] at h ⊢
  unfold commB at h ⊢
  split at h
  ·rename_i hm
   rw[if_pos hm]
   have:=comm_here c [] hm hs.1 hs.2
   rw[List.append_nil] at this
   simp only[readO,if_neg (by decide:¬((3:UInt8)=1)),if_neg (by decide:¬((3:UInt8)=2)),if_pos,this]
  ·exact absurd rfl h
theorem parse_back (o:ObjD) (hs:o.short) (h:o.bytes≠[]):parseO o.bytes=some o:=by
 unfold parseO;rw[read_back o hs h];simp
theorem parse_bytes {b:List UInt8} {o:ObjD} (h:parseO b=some o):o.bytes=b:=by
 unfold parseO at h
 have:=Option.filter_eq_some_iff.1 h
 simpa using this.2
theorem takeR_len (n:Nat) (r:RdD):(takeR n r).1.length≤n:=by
 unfold takeR;split
 ·simp
 ·simp;omega
theorem beVal2 (n:Nat) (r:RdD) (hn:n≤2):(numR n r).1<65536:=by
 unfold numR
 have h1:=beVal_lt (takeR n r).1
 have h2:=takeR_len n r
 have h3:256^(takeR n r).1.length≤256^2:=Nat.pow_le_pow_right (by decide) (by omega)
 simp only
 omega
theorem commR_short (r:RdD):(commR r).1.author.length<65536∧(commR r).1.text.length<65536:=by
 unfold commR
 simp only
 constructor
 ·have h1:=takeR_len (numR 2 (numR 6 (keysR (numR 1 (takeR 32 r).2).1 (numR 1 (takeR 32 r).2).2).2).2).1 (numR 2 (numR 6 (keysR (numR 1 (takeR 32 r).2).1 (numR 1 (takeR 32 r).2).2).2).2).2
  have h2:=beVal2 2 (numR 6 (keysR (numR 1 (takeR 32 r).2).1 (numR 1 (takeR 32 r).2).2).2).2 (by decide)
  omega
 ·generalize (takeR (numR 2 (numR 6 (keysR (numR 1 (takeR 32 r).2).1 (numR 1 (takeR 32 r).2).2).2).2).1 (numR 2 (numR 6 (keysR (numR 1 (takeR 32 r).2).1 (numR 1 (takeR 32 r).2).2).2).2).2)=q
  have h1:=takeR_len (numR 2 q.2).1 (numR 2 q.2).2
  have h2:=beVal2 2 q.2 (by decide)
  omega
theorem parse_short {b:List UInt8} {o:ObjD} (h:parseO b=some o):o.short:=by
 unfold parseO at h
 have h1:=(Option.filter_eq_some_iff.1 h).1
 unfold readO at h1
 split at h1
 ·cases h1
 ·repeat' split at h1
  all_goals first | cases h1 | skip
  ·trivial
  ·trivial
  ·exact commR_short _
def kindO (b:List UInt8):Nat:=match parseO b with
 | some o=>o.kind
 | none=>0
theorem kindO_of {o:ObjD} (hs:o.short) (h:o.bytes≠[]):kindO o.bytes=o.kind:=by unfold kindO;rw[parse_back o hs h]
theorem kindO_some {b:List UInt8} {k:Nat} (h:kindO b=k) (h0:k≠0):∃o:ObjD,o.short∧o.bytes=b∧o.bytes≠[]∧o.kind=k:=by
 unfold kindO at h
 cases hp:parseO b with
 | none=>rw[hp] at h;exact absurd h.symm h0
 | some o=>
  rw[hp] at h
  have h1:=parse_bytes hp
  refine⟨o,parse_short hp,h1,fun e=>?_,h⟩
  rw[h1] at e
  subst e
  simp[parseO,readO] at hp
theorem beB_val2 (x0 x1:UInt8):beB (beVal [x0,x1]) 2=[x0,x1]:=by
 have e:beVal [x0,x1]=256 * x0.toNat+x1.toNat:=by simp only[beVal,List.foldl_cons,List.foldl_nil];omega
 have h0:=x0.toNat_lt
 have h1:=x1.toNat_lt
 have e1:UInt8.ofNat (256 * x0.toNat+x1.toNat)=x1:=by
  apply UInt8.toNat_inj.1
  rw[UInt8.toNat_ofNat']
  omega
 have e0:UInt8.ofNat ((256 * x0.toNat+x1.toNat) / 256)=x0:=by
  apply UInt8.toNat_inj.1
  rw[UInt8.toNat_ofNat']
  omega
 rw[e]
 simp[beB,leBy,List.range_succ,e0,e1]
theorem ofNat_toNat (x:UInt8):UInt8.ofNat x.toNat=x:=UInt8.ofNat_toNat
def shp6 (t:List UInt8):ShpD:=⟨((beVal (t.take 2):Nat):Int),((beVal ((t.drop 2).take 2):Nat):Int),(((t.getD 4 0).toNat:Nat):Int),(((t.getD 5 0).toNat:Nat):Int)⟩
def chunkN:Nat→List UInt8→List (List UInt8)
 | 0,_=>[]
 | n+1,t=>hexL (t.take 32)::chunkN n (t.drop 32)
theorem raw_hex (c:List UInt8):rawK (hexL c)=c:=by unfold rawK;rw[unhex_hex];rfl
theorem raw_chunks:∀(n:Nat) (t:List UInt8),t.length=32 * n→rawKs (chunkN n t)=t
 | 0,t,h=>by have:t=[]:=List.length_eq_zero_iff.1 (by omega);subst this;rfl
 | n+1,t,h=>by
  show rawK (hexL (t.take 32))++rawKs (chunkN n (t.drop 32))=t
  rw[raw_hex,raw_chunks n _ (by rw[List.length_drop];omega),List.take_append_drop]
theorem rawKs_cons (k:List UInt8) (l:List (List UInt8)):rawKs (k::l)=rawK k++rawKs l:=rfl
theorem rawKs_len:∀l:List (List UInt8),validAll l=true→(rawKs l).length=32 * l.length
 | [],_=>rfl
 | k::l,h=>by
  unfold validAll at h
  simp only[List.all_cons,Bool.and_eq_true] at h
  rw[rawKs_cons,List.length_append,(rawK_valid h.1).2.1,rawKs_len l (by unfold validAll;exact h.2),List.length_cons]
  omega
theorem chunks_raw:∀l:List (List UInt8),validAll l=true→chunkN l.length (rawKs l)=l
 | [],_=>rfl
 | k::l,h=>by
  unfold validAll at h
  simp only[List.all_cons,Bool.and_eq_true] at h
  obtain⟨-,h2,h3⟩:=rawK_valid h.1
  have ih:=chunks_raw l (by unfold validAll;exact h.2)
  show hexL ((rawKs (k::l)).take 32)::chunkN l.length ((rawKs (k::l)).drop 32)=k::l
  rw[rawKs_cons,List.take_append_of_le_length (by omega),List.take_of_length_le (by omega),h3,List.drop_append_of_le_length (by omega),List.drop_of_length_le (by omega),List.nil_append,ih]
def refTreeD (t:List UInt8):TreeD:=⟨shp6 t,chunkN ((t.length - 6) / 32) (t.drop 6)⟩
def refTree (b:List UInt8):Bool:=match b with
 | []=>false
 | k::t=>decide (k=2)&&decide (6≤t.length)&&decide ((t.length - 6) % 32=0)&&mayTree (refTreeD t)
theorem shp6_bytes {t:List UInt8} (h:6≤t.length):beB (shp6 t).w.toNat 2++beB (shp6 t).h.toNat 2++[UInt8.ofNat (shp6 t).c.toNat,UInt8.ofNat (shp6 t).d.toNat]=t.take 6:=by
 match t,h with
 | a::b::c::d::e::f::r,_=>
  have e1:(shp6 (a::b::c::d::e::f::r)).w.toNat=beVal [a,b]:=by simp[shp6]
  have e2:(shp6 (a::b::c::d::e::f::r)).h.toNat=beVal [c,d]:=by simp[shp6]
  have e3:(shp6 (a::b::c::d::e::f::r)).c.toNat=e.toNat:=by simp[shp6]
  have e4:(shp6 (a::b::c::d::e::f::r)).d.toNat=f.toNat:=by simp[shp6]
  rw[e1,e2,e3,e4,beB_val2,beB_val2,ofNat_toNat,ofNat_toNat]
  rfl
theorem tree_bytes {t:List UInt8} (h:6≤t.length) (hm:(t.length - 6) % 32=0):treeT (refTreeD t)=t:=by
 unfold treeT refTreeD
 simp only
 rw[shp6_bytes h,raw_chunks _ _ (by rw[List.length_drop];omega),List.take_append_drop]
theorem may_shape {t:TreeD} (h:mayTree t=true):maySh t.shp=true:=by
 unfold mayTree at h
 simp only[Bool.and_eq_true,decide_eq_true_eq] at h
 by_cases hm:maySh t.shp=true
 ·exact hm
 ·have:=h.1.1
  unfold gridD at this;rw[if_neg hm] at this;exact absurd this (by decide)
theorem shp6_of (s:ShpD) (z:List UInt8) (hn:numsB s=true):shp6 (beB s.w.toNat 2++beB s.h.toNat 2++[UInt8.ofNat s.c.toNat,UInt8.ofNat s.d.toNat]++z)=s:=by
 obtain⟨hw,hh,hc,hd⟩:=(numsB_iff s).1 hn
 have e:∀n:Nat,beB n 2=[UInt8.ofNat (n / 256),UInt8.ofNat n]:=fun n=>by simp[beB,leBy,List.range_succ]
 have b1:=be2 s.w.toNat (by omega)
 have b2:=be2 s.h.toNat (by omega)
 have c1:=Wd.u8n s.c.toNat (by omega)
 have c2:=Wd.u8n s.d.toNat (by rcases hd with h | h <;> omega)
 rw[e] at b1 b2
 rw[e,e]
 unfold shp6
 simp only[List.cons_append,List.nil_append,List.take_succ_cons,List.take_zero,List.drop_succ_cons,List.drop_zero,List.getD_cons_succ,List.getD_cons_zero]
 rw[b1,b2,c1,c2]
 obtain⟨w,h,c,d⟩:=s
 simp only at hw hh hc hd ⊢
 congr 1 <;> (try (rcases hd with h | h)) <;> omega
theorem tree_iff (b:List UInt8):(kindO b=2)↔refTree b=true:=by
 constructor
 ·intro h
  obtain⟨o,hs,hb,hne,hk⟩:=kindO_some h (by decide)
  cases o with
  | tile s px=>cases hk
  | comm c=>cases hk
  | tree T=>
   simp only[ObjD.bytes] at hb hne
   unfold treeB at hb hne
   split at hne
   ·rename_i hm
    rw[if_pos hm] at hb
    subst hb
    have hv:validAll T.keys=true:=by unfold mayTree at hm;simp only[Bool.and_eq_true] at hm;exact hm.2
    have hl:(treeT T).length=6+32 * T.keys.length:=by
     unfold treeT
     simp only[List.length_append,beB_length,rawKs_len _ hv,List.length_cons,List.length_nil]
    have hsh:=may_shape hm
    have hnum:numsB T.shp=true:=by unfold maySh at hsh;simp only[Bool.and_eq_true] at hsh;exact hsh.1
    have eD:refTreeD (treeT T)=T:=by
     unfold refTreeD
     rw[hl,show 6+32 * T.keys.length - 6=32 * T.keys.length by omega,Nat.mul_div_cancel_left _ (by decide:0<32)]
     have e1:shp6 (treeT T)=T.shp:=by unfold treeT;exact shp6_of T.shp _ hnum
     have e2:(treeT T).drop 6=rawKs T.keys:=by
      unfold treeT
      rw[List.drop_append_of_le_length (by simp[beB_length]),List.drop_of_length_le (by simp[beB_length]),List.nil_append]
     rw[e1,e2,chunks_raw _ hv]
    unfold refTree
    simp only[Bool.and_eq_true,decide_eq_true_eq]
    refine⟨⟨⟨trivial,by omega⟩,by omega⟩,?_⟩
    rw[eD];exact hm
   ·exact absurd rfl hne
 ·intro h
  unfold refTree at h
  match b,h with
  | k::t,h=>
   simp only[Bool.and_eq_true,decide_eq_true_eq] at h
   obtain⟨⟨⟨rfl,h6⟩,hm⟩,hM⟩:=h
   have hb:(ObjD.tree (refTreeD t)).bytes=2::t:=by
    show treeB (refTreeD t)=_
    unfold treeB
    rw[if_pos hM,tree_bytes h6 hm]
   have:=kindO_of (o:=.tree (refTreeD t)) trivial (by rw[hb];simp)
   rw[hb] at this
   exact this
def refTile (b:List UInt8):Bool:=match b with
 | []=>false
 | k::t=>decide (k=1)&&decide ((decPL t).2.2=0)&&mayTile (decPL t).1 (decPL t).2.1.length
theorem tile_iff (b:List UInt8):(kindO b=1)↔refTile b=true:=by
 constructor
 ·intro h
  obtain⟨o,hs,hb,hne,hk⟩:=kindO_some h (by decide)
  cases o with
  | tree T=>cases hk
  | comm c=>cases hk
  | tile s px=>
   simp only[ObjD.bytes] at hb hne
   unfold tileB at hb hne
   split at hne
   ·rename_i hm
    rw[if_pos hm] at hb
    subst hb
    show (decide ((1:UInt8)=1)&&decide ((decPL (encP s px)).2.2=0)&&mayTile (decPL (encP s px)).1 (decPL (encP s px)).2.1.length)=true
    rw[dec_enc s px ((mayTile_iff s _).1 hm).1]
    simp[hm]
   ·exact absurd rfl hne
 ·intro h
  unfold refTile at h
  match b,h with
  | k::t,h=>
   simp only[Bool.and_eq_true,decide_eq_true_eq] at h
   obtain⟨⟨rfl,h0⟩,hM⟩:=h
   have he:encP (decPL t).1 (decPL t).2.1=t:=by
    unfold decPL at h0 ⊢
    split at h0
    ·cases h0
    ·rename_i h7
     rw[if_neg h7]
     split at h0
     ·cases h0
     ·rename_i hmk
      rw[if_neg hmk]
      split at h0
      ·cases h0
      ·rename_i hs
       rw[if_neg hs]
       split at h0
       ·cases h0
       ·rename_i hl
        rw[if_neg hl]
        have hmk2:=Decidable.not_not.1 hmk
        match t,h7 with
        | m::a0::a1::b0::b1::c::d::r,_=>
         have e0:m=82:=by
          have:=hmk2.1
          simp only[List.getD_cons_zero] at this
          apply UInt8.toNat_inj.1
          rw[this];rfl
         subst e0
         have e1:(shpAt (82::a0::a1::b0::b1::c::d::r)).w.toNat=beVal [a0,a1]:=by simp[shpAt]
         have e2:(shpAt (82::a0::a1::b0::b1::c::d::r)).h.toNat=beVal [b0,b1]:=by simp[shpAt]
         have e3:(shpAt (82::a0::a1::b0::b1::c::d::r)).c.toNat=c.toNat:=by simp[shpAt]
         have e4:(shpAt (82::a0::a1::b0::b1::c::d::r)).d.toNat=d.toNat:=by simp[shpAt]
         show encP (shpAt _) _=_
         unfold encP
         rw[e1,e2,e3,e4,beB_val2,beB_val2,ofNat_toNat,ofNat_toNat]
         rfl
   have hb:(ObjD.tile (decPL t).1 (decPL t).2.1).bytes=1::t:=by
    show tileB _ _=_
    unfold tileB
    rw[if_pos hM,he]
   have:=kindO_of (o:=.tile (decPL t).1 (decPL t).2.1) trivial (by rw[hb];simp)
   rw[hb] at this
   exact this
theorem ofNat_eq {n:Nat} {x:UInt8} (h:n % 256=x.toNat):UInt8.ofNat n=x:=by
 apply UInt8.toNat_inj.1
 rw[UInt8.toNat_ofNat']
 exact h
theorem beB_val6 {l:List UInt8} (h:l.length=6):beB (beVal l) 6=l:=by
 match l,h with
 | [x0,x1,x2,x3,x4,x5],_=>
  have h0:=x0.toNat_lt
  have h1:=x1.toNat_lt
  have h2:=x2.toNat_lt
  have h3:=x3.toNat_lt
  have h4:=x4.toNat_lt
  have h5:=x5.toNat_lt
  obtain⟨n,hn⟩:∃n,beVal [x0,x1,x2,x3,x4,x5]=n:=⟨_,rfl⟩
  have e:n=1099511627776 * x0.toNat+4294967296 * x1.toNat+16777216 * x2.toNat+65536 * x3.toNat+256 * x4.toNat+x5.toNat:=by
   rw[←hn]
   simp only[beVal,List.foldl_cons,List.foldl_nil];omega
  rw[hn]
  have e0:UInt8.ofNat (n / 1099511627776)=x0:=ofNat_eq (by omega)
  have e1:UInt8.ofNat (n / 4294967296)=x1:=ofNat_eq (by omega)
  have e2:UInt8.ofNat (n / 16777216)=x2:=ofNat_eq (by omega)
  have e3:UInt8.ofNat (n / 65536)=x3:=ofNat_eq (by omega)
  have e4:UInt8.ofNat (n / 256)=x4:=ofNat_eq (by omega)
  have e5:UInt8.ofNat n=x5:=ofNat_eq (by omega)
  simp[beB,leBy,List.range_succ,e0,e1,e2,e3,e4,e5]
theorem beB_valTwo {l:List UInt8} (h:l.length=2):beB (beVal l) 2=l:=by
 match l,h with
 | [x0,x1],_=>exact beB_val2 x0 x1
theorem td (t:List UInt8) (n k:Nat):(t.drop n).take k++t.drop (n+k)=t.drop n:=by
 have:t.drop (n+k)=(t.drop n).drop k:=by rw[List.drop_drop]
 rw[this,List.take_append_drop]
theorem chunk_take:∀(n:Nat) (t:List UInt8),chunkN n (t.take (32 * n))=chunkN n t
 | 0,_=>rfl
 | n+1,t=>by
  show hexL ((t.take (32 * (n+1))).take 32)::chunkN n ((t.take (32 * (n+1))).drop 32)=hexL (t.take 32)::chunkN n (t.drop 32)
  rw[List.take_take,Nat.min_eq_left (by omega),List.drop_take,show 32 * (n+1) - 32=32 * n by omega,chunk_take n]
theorem chunk_len:∀(n:Nat) (t:List UInt8),(chunkN n t).length=n
 | 0,_=>rfl
 | n+1,t=>by show (chunkN n (t.drop 32)).length+1=n+1;rw[chunk_len n]
def npC (t:List UInt8):Nat:=(t.getD 32 0).toNat
def atC (t:List UInt8):Nat:=33+32 * npC t
def alC (t:List UInt8):Nat:=beVal ((t.drop (atC t+6)).take 2)
def tlC (t:List UInt8):Nat:=beVal ((t.drop (atC t+8+alC t)).take 2)
def refCommD (t:List UInt8):CommD:=⟨hexL (t.take 32),chunkN (npC t) (t.drop 33),((beVal ((t.drop (atC t)).take 6):Nat):Int),(t.drop (atC t+8)).take (alC t),t.drop (atC t+8+alC t+2)⟩
structure CommOk (t:List UInt8):Prop where
 np:npC t≤2
 len:atC t+8≤t.length
 al:alC t+2≤t.length - (atC t+8)
 tl:t.length - (atC t+8) - alC t - 2=tlC t
theorem comm_bytes {t:List UInt8} (h:CommOk t):commT (refCommD t)=t:=by
 obtain⟨h1,h2,h3,h4⟩:=h
 have hat:atC t=33+32 * npC t:=rfl
 obtain⟨at_,ea⟩:∃at_,atC t=at_:=⟨_,rfl⟩
 have e1:t.take 32++([UInt8.ofNat (npC t)]++((t.drop 33).take (32 * npC t)++t.drop at_))=t:=by
  have a1:t.drop 32=[UInt8.ofNat (npC t)]++t.drop 33:=by
   rw[List.drop_eq_getElem_cons (by omega)]
   congr 1
   unfold npC
   rw[List.getD_eq_getElem?_getD,List.getElem?_eq_getElem (by omega),Option.getD_some,ofNat_toNat]
  have a2:(t.drop 33).take (32 * npC t)++t.drop at_=t.drop 33:=by
   have:t.drop at_=(t.drop 33).drop (32 * npC t):=by rw[List.drop_drop];congr 1;omega
   rw[this,List.take_append_drop]
  rw[a2,←a1,List.take_append_drop]
 have e2:(t.drop at_).take 6++((t.drop (at_+6)).take 2++((t.drop (at_+8)).take (alC t)++((t.drop (at_+8+alC t)).take 2++t.drop (at_+8+alC t+2))))=t.drop at_:=by
  have a1:(t.drop (at_+8+alC t)).take 2++t.drop (at_+8+alC t+2)=t.drop (at_+8+alC t):=td _ _ _
  have a2:(t.drop (at_+8)).take (alC t)++t.drop (at_+8+alC t)=t.drop (at_+8):=td _ _ _
  have a3:(t.drop (at_+6)).take 2++t.drop (at_+8)=t.drop (at_+6):=td _ _ _
  have a4:(t.drop at_).take 6++t.drop (at_+6)=t.drop at_:=td _ _ _
  rw[a1,a2,a3,a4]
 have r1:rawKs (chunkN (npC t) (t.drop 33))=(t.drop 33).take (32 * npC t):=by
  rw[←chunk_take,raw_chunks _ _ (by rw[List.length_take,List.length_drop];omega)]
 have r2:beB (beVal ((t.drop at_).take 6)) 6=(t.drop at_).take 6:=beB_val6 (by rw[List.length_take,List.length_drop];omega)
 have r3:beB ((t.drop (at_+8)).take (alC t)).length 2=(t.drop (at_+6)).take 2:=by
  have:((t.drop (at_+8)).take (alC t)).length=alC t:=by rw[List.length_take,List.length_drop];omega
  rw[this]
  unfold alC
  rw[ea]
  exact beB_valTwo (by rw[List.length_take,List.length_drop];omega)
 have r4:beB (t.drop (at_+8+alC t+2)).length 2=(t.drop (at_+8+alC t)).take 2:=by
  have:(t.drop (at_+8+alC t+2)).length=tlC t:=by rw[List.length_drop];omega
  rw[this]
  unfold tlC
  rw[ea]
  exact beB_valTwo (by rw[List.length_take,List.length_drop];omega)
 unfold commT refCommD
 simp only[Int.toNat_natCast]
 rw[raw_hex,chunk_len,ea,r1,r2,r3,r4]
 simp only[List.append_assoc]
 rw[e2,e1]
def refComm (b:List UInt8):Prop:=∃t,b=3::t∧CommOk t∧mayComm (refCommD t)=true
theorem comm_parts {c:CommD} (hm:mayComm c=true) (hs:c.author.length<65536∧c.text.length<65536):CommOk (commT c)∧refCommD (commT c)=c:=by
 have hm':=hm
 unfold mayComm at hm'
 simp only[Bool.and_eq_true,decide_eq_true_eq,Bool.not_eq_true'] at hm'
 obtain⟨⟨⟨⟨⟨⟨⟨k1,k2⟩,k3⟩,-⟩,k5⟩,k6⟩,-⟩,-⟩:=hm'
 obtain⟨-,l1,l2⟩:=rawK_valid k1
 have l3:=rawKs_len _ k3
 obtain⟨A,hA⟩:∃A,rawK c.tree=A:=⟨_,rfl⟩
 obtain⟨K,hK⟩:∃K,rawKs c.pars=K:=⟨_,rfl⟩
 obtain⟨S,hS⟩:∃S,beB c.stamp.toNat 6=S:=⟨_,rfl⟩
 obtain⟨N,hN⟩:∃N,beB c.author.length 2=N:=⟨_,rfl⟩
 obtain⟨M,hM⟩:∃M,beB c.text.length 2=M:=⟨_,rfl⟩
 have lS:S.length=6:=by rw[←hS];exact beB_length _ _
 have lN:N.length=2:=by rw[←hN];exact beB_length _ _
 have lM:M.length=2:=by rw[←hM];exact beB_length _ _
 rw[hA] at l1 l2
 rw[hK] at l3
 have eT:commT c=A++(UInt8.ofNat c.pars.length::(K++(S++(N++(c.author++(M++c.text)))))):=by
  unfold commT;rw[hA,hK,hS,hN,hM];simp
 obtain⟨T,hT⟩:∃T,commT c=T:=⟨_,rfl⟩
 rw[hT] at eT ⊢
 have d32:T.drop 32=UInt8.ofNat c.pars.length::(K++(S++(N++(c.author++(M++c.text))))):=by rw[eT,←l1,List.drop_left]
 have d33:T.drop 33=K++(S++(N++(c.author++(M++c.text)))):=by rw[show 33=32+1 by rfl,←List.drop_drop,d32];rfl
 have np:npC T=c.pars.length:=by
  unfold npC
  have:T.getD 32 0=(T.drop 32).getD 0 0:=by simp[List.getD_eq_getElem?_getD,List.getElem?_drop]
  rw[this,d32]
  exact Wd.u8n _ (by omega)
 have at_:atC T=33+K.length:=by unfold atC;rw[np,l3]
 have dA:T.drop (atC T)=S++(N++(c.author++(M++c.text))):=by rw[at_,←List.drop_drop,d33,List.drop_left]
 have d6:T.drop (atC T+6)=N++(c.author++(M++c.text)):=by rw[←List.drop_drop,dA,←lS,List.drop_left]
 have d8:T.drop (atC T+8)=c.author++(M++c.text):=by rw[show atC T+8=atC T+6+2 by omega,←List.drop_drop,d6,←lN,List.drop_left]
 have al:alC T=c.author.length:=by
  unfold alC
  rw[d6,←lN,List.take_left,←hN,be2 _ hs.1]
 have d9:T.drop (atC T+8+alC T)=M++c.text:=by rw[←List.drop_drop,d8,al,List.drop_left]
 have tl:tlC T=c.text.length:=by
  unfold tlC
  rw[d9,←lM,List.take_left,←hM,be2 _ hs.2]
 have d11:T.drop (atC T+8+alC T+2)=c.text:=by rw[←List.drop_drop,d9,←lM,List.drop_left]
 have hlen:T.length=33+K.length+8+c.author.length+2+c.text.length:=by
  rw[eT];simp only[List.length_append,List.length_cons];omega
 refine⟨⟨by rw[np];exact k2,by omega,by omega,by omega⟩,?_⟩
 have e1:T.take 32=A:=by rw[eT,←l1,List.take_left]
 have e2:chunkN (npC T) (T.drop 33)=c.pars:=by
  rw[np,←chunk_take,d33,←l3,List.take_left,←hK]
  exact chunks_raw _ k3
 have e3:beVal ((T.drop (atC T)).take 6)=c.stamp.toNat:=by rw[dA,←lS,List.take_left,←hS,be6 _ (by omega)]
 have e4:(T.drop (atC T+8)).take (alC T)=c.author:=by rw[d8,al,List.take_left]
 unfold refCommD
 rw[e1,e2,e3,e4,d11,l2]
 obtain⟨a,b,s,x,y⟩:=c
 simp only at k5 ⊢
 congr 1
 omega
theorem comm_iff (b:List UInt8):(kindO b=3)↔refComm b:=by
 constructor
 ·intro h
  obtain⟨o,hs,hb,hne,hk⟩:=kindO_some h (by decide)
  cases o with
  | tile s px=>cases hk
  | tree T=>cases hk
  | comm c=>
   simp only[ObjD.bytes] at hb hne
   unfold commB at hb hne
   split at hne
   ·rename_i hm
    rw[if_pos hm] at hb
    obtain⟨h1,h2⟩:=comm_parts hm hs
    exact⟨commT c,hb.symm,h1,by rw[h2];exact hm⟩
   ·exact absurd rfl hne
 ·rintro⟨t,rfl,hok,hm⟩
  have hb:(ObjD.comm (refCommD t)).bytes=3::t:=by
   show commB _=_
   unfold commB
   rw[if_pos hm,comm_bytes hok]
  have hsh:(ObjD.comm (refCommD t)).short:=by
   have h1:∀l:List UInt8,l.length≤2→beVal l<65536:=fun l hl=>by
    have h2:=beVal_lt l
    have h3:256^l.length≤256^2:=Nat.pow_le_pow_right (by decide) hl
    omega
   constructor
   ·show ((t.drop (atC t+8)).take (alC t)).length<65536
    have:alC t<65536:=h1 _ (by rw[List.length_take];omega)
    rw[List.length_take];omega
   ·show (t.drop (atC t+8+alC t+2)).length<65536
    have:tlC t<65536:=h1 _ (by rw[List.length_take];omega)
    have:=hok.tl
    rw[List.length_drop];omega
  have:=kindO_of hsh (by rw[hb];simp)
  rw[hb] at this
  exact this
end Go.Aq
