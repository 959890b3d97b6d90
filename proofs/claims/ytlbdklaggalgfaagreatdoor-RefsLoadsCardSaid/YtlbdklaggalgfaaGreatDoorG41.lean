/- RfB RfD RfH RqA RefSign -/
import Derived.Test.YtlbdklaggalgfaaGreatDoorG40
import Derived.Laws.CopyRow
import Derived.Lib.Overlaps
set_option linter.unusedSimpArgs false
set_option linter.unusedVariables false
set_option maxHeartbeats 4000000
namespace Go.Aq
open Go.RowKit
theorem Rfs_app (a b:List RefD):Rfs (a++b)=Rfs a++Rfs b:=by simp[Rfs]
end Go.Aq
namespace Go.Proofs.YtlbdklaggalgfaaGreatDoor
open Go.RowKit Go.Aq Go.Aq.Wd
end Go.Proofs.YtlbdklaggalgfaaGreatDoor
namespace Go.Aq
open Go.RowKit
theorem wrapR (a:Int) (h: -9223372036854775808≤a∧a≤9223372036854775807):IntKind.i64.wrap a=a:=by
 simp[IntKind.wrap,IntKind.bits,IntKind.signed];split <;> omega
theorem w64R (a:Int) (h: -9223372036854775808≤a∧a≤9223372036854775807):wrap64 a=a:=by unfold wrap64;omega
end Go.Aq
namespace Go.Proofs.YtlbdklaggalgfaaGreatDoor
open Go.RowKit Go.Aq Go.Aq.Wd
end Go.Proofs.YtlbdklaggalgfaaGreatDoor
namespace Go.Aq
open Go.RowKit Go.Aq.Wd
theorem rfs_ones (l:List RefD):∀u∈Rfs l,u.oneCell'=true:=by
 intro u hu;simp only[Rfs,List.mem_flatMap] at hu;obtain⟨r,-,hu⟩:=hu;simp only[rfCells,List.mem_cons,List.not_mem_nil,or_false] at hu;rcases hu with rfl | rfl | rfl <;> rfl
instance:DecidableEq RefD:=fun a b=>by
 obtain⟨a1,a2,a3⟩:=a;obtain⟨b1,b2,b3⟩:=b;exact if h:a1=b1∧a2=b2∧a3=b3 then .isTrue (by obtain⟨rfl,rfl,rfl⟩:=h;rfl) else .isFalse (fun e=>h (by injection e with e1 e2 e3;exact⟨e1,e2,e3⟩))
end Go.Aq
namespace Go.Proofs.YtlbdklaggalgfaaGreatDoor
open Go.RowKit Go.Aq Go.Aq.Wd
theorem sl_q:SliceTy Tryz.prog 33 64 (.agg #[.bool false,.string ⟨#[]⟩,.string ⟨#[]⟩]) 3 40:=⟨Tryz.underlying33,by kernel_rfl,rfl,by decide⟩
set_option maxRecDepth 100000 in
theorem plainR_any (w:World) (v:Value) (l:List RefD) (hv:Sees w 3 v l.length (Rfs l)) (hl:l.length≤1000000):
  Calls Tryz.prog 11 #[v] w fun e w'=>∃v',e=.returned v'∧Fresh w w' 64 3 v' l.length (Rfs l):=by
 obtain⟨n,HN⟩:∃n,Hid (l.length=n):=⟨_,rfl⟩;rw[HN.out] at hv hl ⊢;obtain⟨ao,cap,rfl,-⟩:=hv.shape;have HV:=zH hv;clear hv;go_enter Tryz.func11,Tryz.ntmps11;go_wp2_with fail;go_loopg [3,4] n (fun gk (v3 v4:Value) wr=>∃(i:Nat) (a6:Option Addr) (c6:Nat),v3=.slice a6 i c6∧v4=.int .i64 (i:Int)∧i+gk=n∧Hid (Fresh w wr 64 3 (.slice a6 i c6) i (Rfs (l.take i))));case atStart=>exact⟨0,none,0,rfl,rfl,by omega,Fresh.nil _ _ _⟩
 case round=>
  obtain⟨i,a6,c6,rfl,rfl,hik,HF⟩:=hrel;by_cases hin:i<n
  ·have t1:decide ((i:Int)<(n:Int))=true:=decide_eq_true (by omega);have t1':decide (i<n)=true:=decide_eq_true hin;have hil:i<l.length:=by rw[HN.out];exact hin
   obtain⟨g,off,cap',hs,-,hgl,hcell⟩:=HV.out.cells (by omega);simp only[Value.slice.injEq,true_and] at hs;obtain⟨hs1,hs2⟩:=hs;subst hs1;obtain⟨y0,y1,y2⟩:=Rfs_cells HN.out hcell i hil;have htk:=List.take_succ_eq_append_getElem hil;have hgn:g∉(Value.slice a6 i c6).ownBlock.toList:=fun hm=>by have:=HF.out.new g hm;omega
   have hcs:Hid (∀W,Chg (Value.slice a6 i c6).ownBlock.toList wr.drew W→W.cell? ⟨g,off+i * 3,none⟩=some (.bool l[i].tag)∧W.cell? ⟨g,off+i * 3+1,none⟩=some (.string (str l[i].name))∧W.cell? ⟨g,off+i * 3+2,none⟩=some (.string (str l[i].key))):=fun W c=>by
    have cw:Chg (Value.slice a6 i c6).ownBlock.toList wr W:=((Chg.refl _ wr).drew).tr c;have f:=fun {a:Addr} {u:Value} (h:w.cell? a=some u) (ha:a.block=g)=>cw.cell_some (HF.out.chg.cell_some h (by simp)) (by rw[ha];exact hgn)
    exact⟨f y0 rfl,f y1 rfl,f y2 rfl⟩
   have w3:wrap64 ((i:Int)+1)=((i+1:Nat):Int):=by unfold wrap64;omega
   have i1:(0:Int)≤(i:Int):=by omega
   have i2:(i:Int)<n:=by omega
   have hb3:(i+1) * 40≤140737488355328:=by omega
   have hb4:i+1≤9223372036854775807:=by omega
   have HI:=zA hik htk;clear hik htk y0 y1 y2 hcell hgl hgn hs2 hl;generalize l[i]=rf at *;clear hil;obtain⟨tr,nm,ky⟩:=rf;simp only at hcs;go_upto_region 5 with (fail);have HF0:Hid (Fresh w wr.drew 64 3 (.slice a6 i c6) i (Rfs (l.take i))):=HF.out.to ((Chg.refl [] wr).drew);have c0:Chg (Value.slice a6 i c6).ownBlock.toList wr.drew wr.drew:=Chg.refl _ _;refine wp_region_E (Value.slice a6 i c6).ownBlock.toList (by kernel_rfl) ?_;generalize wr.drew=W0 at *;refine tE 0 (.slice a6 i c6) c0 (fun w4 c4=>?_) ?_;·go_simp
   refine yG ?_;refine tE 1 (.slice (some ⟨g,off,none⟩) n cap) c0 (fun w4 c4=>?_) ?_;·go_simp
   refine yG ?_;refine tE 2 (.int .i64 (i:Int)) c0 (fun w4 c4=>?_) ?_;·go_simp
   refine yG ?_;refine tE 3 (.pointer (some ⟨g,off+i * 3,none⟩)) c0 (fun w4 c4=>?_) ?_
   ·obtain⟨z0,z1,z2⟩:=hcs.out w4 c4;go_simp
   refine yG ?_;refine tE 4 (.pointer (some ⟨g,off+i * 3,none⟩)) c0 (fun w4 c4=>?_) ?_
   ·obtain⟨z0,z1,z2⟩:=hcs.out w4 c4;go_simp
   refine yG ?_;refine tE 5 (.bool tr) c0 (fun w4 c4=>?_) ?_
   ·obtain⟨z0,z1,z2⟩:=hcs.out w4 c4;go_simp
   refine yG ?_;refine tE 6 (.slice (some ⟨g,off,none⟩) n cap) c0 (fun w4 c4=>?_) ?_;·go_simp
   refine yG ?_;refine tE 7 (.int .i64 (i:Int)) c0 (fun w4 c4=>?_) ?_;·go_simp
   refine yG ?_;refine tE 8 (.pointer (some ⟨g,off+i * 3,none⟩)) c0 (fun w4 c4=>?_) ?_
   ·obtain⟨z0,z1,z2⟩:=hcs.out w4 c4;go_simp
   refine yG ?_;refine tE 9 (.pointer (some ⟨g,off+i * 3+1,none⟩)) c0 (fun w4 c4=>?_) ?_
   ·obtain⟨z0,z1,z2⟩:=hcs.out w4 c4;go_simp
   refine yG ?_;refine tE 10 (.string (str nm)) c0 (fun w4 c4=>?_) ?_
   ·obtain⟨z0,z1,z2⟩:=hcs.out w4 c4;go_simp
   refine yG ?_;refine tE 11 (.slice (some ⟨g,off,none⟩) n cap) c0 (fun w4 c4=>?_) ?_;·go_simp
   refine yG ?_;refine tE 12 (.int .i64 (i:Int)) c0 (fun w4 c4=>?_) ?_;·go_simp
   refine yG ?_;refine tE 13 (.pointer (some ⟨g,off+i * 3,none⟩)) c0 (fun w4 c4=>?_) ?_
   ·obtain⟨z0,z1,z2⟩:=hcs.out w4 c4;go_simp
   refine yG ?_;refine tE 14 (.pointer (some ⟨g,off+i * 3+2,none⟩)) c0 (fun w4 c4=>?_) ?_
   ·obtain⟨z0,z1,z2⟩:=hcs.out w4 c4;go_simp
   refine yG ?_;refine tE 15 (.string (str ky)) c0 (fun w4 c4=>?_) ?_
   ·obtain⟨z0,z1,z2⟩:=hcs.out w4 c4;go_simp
   refine yG ?_;refine tE 16 (.agg #[.bool tr,.string (str nm),.string (str ky)]) c0 (fun w4 c4=>?_) ?_;·go_simp
   refine yG ?_;refine oE 17 ?_;have hb:Blk (W0.alloc (.cells #[.bool tr,.string (str nm),.string (str ky)] 64)) W0.heap.size #[.bool tr,.string (str nm),.string (str ky)] 64:=Blk.new _ _ _;have cB:Chg [] W0 (W0.alloc (.cells #[.bool tr,.string (str nm),.string (str ky)] 64)):=(Chg.refl [] _).alloc _;have HC0:=zH c0;clear c0;go_simp;have c18:=HC0.out.nil cB;have hO18:=HF0.out.to cB;refine⟨c18,?_⟩;have hs1:Sees (W0.alloc (.cells #[.bool tr,.string (str nm),.string (str ky)] 64)) 3 (.slice (some ⟨W0.heap.size,0,none⟩) 1 1) 1 (Rfs [⟨tr,nm,ky⟩]):=Sees.blk hb;generalize W0.heap.size=KK at *;generalize W0.alloc (.cells #[.bool tr,.string (str nm),.string (str ky)] 64)=w18 at *;clear cB hb;refine yG ?_;refine oE 18 ?_;refine wp_app _ _ 33 (by rfl) sl_q (v:=(.slice a6 i c6)) (n:=i) (xs:=Rfs (l.take i)) hO18.own (by rfl) (vx:=(.slice (some ⟨KK,0,none⟩) 1 1)) (m:=1) (news:=Rfs [⟨tr,nm,ky⟩]) hs1 (by rfl) (rfs_ones _) hb3 hb4 ?_;intro v19 w19 o19 e19 n19;have c19:Chg (Value.slice a6 i c6).ownBlock.toList W0 w19:=c18.tr e19;have hF19:=hO18.app o19 e19 n19;clear o19 e19 n19;refine⟨c19,?_⟩;refine yG ?_;refine tE 19 (v19) c19 (fun w4 c4=>?_) ?_;·go_simp
   refine yG ?_;refine wpAnyE_done (by kernel_rfl) ?_ _;obtain⟨a19,q19,rfl,-⟩:=hF19.shape;rw[←Rfs_app,←HI.out.2] at hF19;have HF19:=zH hF19;clear hF19 c19 c18 hO18 hs1;go_wp2_with fail;go_roundg (gk - 1);case measure=>have:=HI.out.1;omega
   case rel=>exact⟨i+1,a19,q19,rfl,by first | rfl | rw[w3],by have:=HI.out.1;omega,HF19⟩
  ·have t1:decide ((i:Int)<(n:Int))=false:=decide_eq_false (by omega);have t1':decide (i<n)=false:=decide_eq_false hin;obtain rfl:i=n:=by omega
   go_wp2_with fail;go_ret;have h:=HF.out;rw[←HN.out,List.take_length] at h;exact⟨_,rfl,by rw[←HN.out];exact h⟩
set_option maxRecDepth 100000 in
theorem sameR_any (w:World) (v1 v2:Value) (l1 l2:List RefD) (h1:Sees w 3 v1 l1.length (Rfs l1)) (h2:Sees w 3 v2 l2.length (Rfs l2)) (hl1:l1.length≤1000000) (hl2:l2.length≤1000000):
  Calls Tryz.prog 10 #[v1,v2] w fun e w'=>e=.returned (.bool (decide (l1=l2)))∧Chg [] w w':=by
 obtain⟨n,HN⟩:∃n,Hid (l1.length=n):=⟨_,rfl⟩;obtain⟨m,HM⟩:∃n,Hid (l2.length=n):=⟨_,rfl⟩;rw[HN.out] at h1 hl1;rw[HM.out] at h2 hl2;obtain⟨ao,cap,rfl,-⟩:=h1.shape;obtain⟨bo,cbp,rfl,-⟩:=h2.shape;have HV:=zA h1 h2;clear h1 h2;by_cases hnm:n=m
 ·subst hnm;have e0:((n:Int) != (n:Int))=false:=by simp
  go_enter Tryz.func10,Tryz.ntmps10;go_wp2_with fail;go_loopg [5] n (fun gk (v5:Value) wr=>∃(i:Nat),v5=.int .i64 (i:Int)∧i+gk=n∧Hid (l1.take i=l2.take i)∧Hid (Chg [] w wr));case atStart=>exact⟨0,rfl,by omega,rfl,Chg.refl _ _⟩
  case round=>
   obtain⟨i,rfl,hik,HT,HC⟩:=hrel;by_cases hin:i<n
   ·have t1:decide ((i:Int)<(n:Int))=true:=decide_eq_true (by omega);have t1':decide (i<n)=true:=decide_eq_true hin;have hil1:i<l1.length:=by rw[HN.out];exact hin
    have hil2:i<l2.length:=by rw[HM.out];exact hin
    obtain⟨g,off,cap',hs,-,-,hcell⟩:=(HV.out.1.chg0 HC.out).cells (by omega);simp only[Value.slice.injEq,true_and] at hs;obtain⟨hs1,hs2⟩:=hs;subst hs1;obtain⟨g',off',cap'',hs',-,-,hcell'⟩:=(HV.out.2.chg0 HC.out).cells (by omega);simp only[Value.slice.injEq,true_and] at hs';obtain⟨hs1',hs2'⟩:=hs';subst hs1';obtain⟨y0,y1,y2⟩:=Rfs_cells HN.out hcell i hil1;obtain⟨x0,x1,x2⟩:=Rfs_cells HM.out hcell' i hil2;have ht1:=List.take_succ_eq_append_getElem hil1;have ht2:=List.take_succ_eq_append_getElem hil2;have i1:(i:Int)≤1000000:=by omega
    have hno:Hid (l1[i]≠l2[i]→l1≠l2):=fun h e=>h (by subst e;rfl)
    have hyes:Hid (l1[i]=l2[i]→l1.take (i+1)=l2.take (i+1)):=fun h=>by rw[ht1,ht2,HT.out,h]
    have HI:=zH hik;clear hik ht1 ht2 hcell hcell' hs2 hs2' hl1 hl2;generalize l1[i]=ra at *;generalize l2[i]=rb at *;clear hil1 hil2;obtain⟨ta,na,ka⟩:=ra;obtain⟨tb,nb,kb⟩:=rb;simp only at y0 y1 y2 x0 x1 x2;have q1:=str_eq na nb;have q2:=str_eq ka kb;by_cases h:ta=tb∧na=nb∧ka=kb
    ·obtain⟨rfl,rfl,rfl⟩:=h;have HY:Hid (l1.take (i+1)=l2.take (i+1)):=hyes.out rfl;clear hno hyes q1 q2;go_wp2_with fail;go_quiet (fail);go_wp2_with fail;go_roundg (gk - 1);case measure=>have:=HI.out;omega
     case rel=>exact⟨i+1,by go_num,by have:=HI.out;omega,HY,HC.out.drewN nq⟩
    ·have HE:Hid (decide (l1=l2)=false):=decide_eq_false (hno.out (fun e=>h (by injection e with e1 e2 e3;exact⟨e1,e2,e3⟩)));have hh:(ta==tb)=false∨((ta==tb)=true∧decide (na=nb)=false)∨((ta==tb)=true∧decide (na=nb)=true∧decide (ka=kb)=false):=by
      by_cases e1:ta=tb
      ·by_cases e2:na=nb;·right;right;exact⟨by simpa using e1,by simpa using e2,by simp;exact fun e3=>h ⟨e1,e2,e3⟩⟩
       ·right;left;exact⟨by simpa using e1,by simpa using e2⟩
      ·left;simpa using e1
     clear hno hyes h;rcases hh with g1 | ⟨g1,g2⟩ | ⟨g1,g2,g3⟩
     all_goals
      first | rw[g2] at q1 | skip
      first | rw[g3] at q2 | skip
      go_wp2_with fail;go_quiet (fail);go_wp2_with fail;go_ret;exact⟨by rw[HE.out];rfl,HC.out.drewN nq⟩
   ·have t1:decide ((i:Int)<(n:Int))=false:=decide_eq_false (by omega);have t1':decide (i<n)=false:=decide_eq_false hin;have HE:Hid (decide (l1=l2)=true):=by
     refine decide_eq_true ?_;have h:=HT.out;rw[List.take_of_length_le (by rw[HN.out];omega),List.take_of_length_le (by rw[HM.out];omega)] at h;exact h
    go_wp2_with fail;go_ret;exact⟨by rw[HE.out];rfl,HC.out⟩
 ·have e0:((n:Int) != (m:Int))=true:=by simp;omega
  have HE:Hid (decide (l1=l2)=false):=decide_eq_false (fun e=>hnm (by rw[←HN.out,←HM.out,e]));go_enter Tryz.func10,Tryz.ntmps10;go_wp2_with fail;go_ret;exact⟨by rw[HE.out];rfl,Chg.refl _ _⟩
end Go.Proofs.YtlbdklaggalgfaaGreatDoor
namespace Go.Aq
open Go.RowKit Go.Aq.Wd
theorem cmpB_ways (a b:List UInt8):(cmpB a b= -1∧a<b)∨(cmpB a b=0∧¬a<b∧a=b)∨(cmpB a b=1∧¬a<b∧a≠b):=by
 have hz:=cmpB_zero a b;by_cases h1:a<b;·left;exact⟨by unfold cmpB;rw[if_pos h1],h1⟩
 ·right;by_cases h2:a=b;·left;exact⟨hz.2 h2,h1,h2⟩
  ·right;refine⟨?_,h1,h2⟩;rcases cmpB_range a b with h | h | h
   ·unfold cmpB at h;rw[if_neg h1] at h;split at h <;> omega
   ·exact absurd (hz.1 h) h2
   ·exact h
end Go.Aq
namespace Go.Proofs.YtlbdklaggalgfaaGreatDoor
open Go.RowKit Go.Aq Go.Aq.Wd
theorem refValid_any (w:World) (s:List UInt8) (hs:s.length≤1000000):
  Calls Tryz.prog 184 #[.string (str s)] w fun e w'=>e=.returned (.bool (validB s))∧Chg [] w w':=by
 go_enter Tryz.func184,Tryz.ntmps184;go_wp2_with fail;refine (refUnhex_any w s hs).mono ?_;rintro e w1 (⟨bs,v',hu,rfl,hf⟩ | ⟨hu,rfl,hc⟩)
 ·obtain⟨ao,cap,rfl,hcap⟩:=hf.shape;have hv:validB s=(bs.length==32):=by unfold validB;rw[hu]
  have HV:=zH hv;have hc:=hf.chg;clear hu hv hf;generalize bs.length=k at *;go_wp2_with fail;go_ret;exact⟨ret_bool (by rw[HV.out,Bool.eq_iff_iff];simp;omega),hc⟩
 ·have hv:validB s=false:=by unfold validB;rw[hu]
  have HV:=zH hv;clear hu hv;go_wp2_with fail;go_ret;exact⟨ret_bool HV.out.symm,hc⟩
set_option maxRecDepth 100000 in
theorem rcompare_any (a b:RefD) (w:World):Calls Tryz.prog 185 #[rfV a,rfV b] w fun e w'=>e=.returned (.int .i64 (cmpR a b))∧Chg [] w w':=by
 obtain⟨ta,na,ka⟩:=a;obtain⟨tb,nb,kb⟩:=b;unfold rfV;simp only;have hl:Op.bytesLess (str na).toList (str nb).toList=decide (na<nb):=by rw[Proofs.bytesLess_eq,str_toList,str_toList]
 have he:((str na).toList==(str nb).toList)=decide (na=nb):=str_eq na nb;have hR:Hid (cmpR ⟨ta,na,ka⟩ ⟨tb,nb,kb⟩=if ta=tb then cmpB na nb else if ta then 1 else -1):=rfl;have hw:=fun (w:World)=>((Chg.refl [] w).alloc (.cells #[.bool ta,.string (str na),.string (str ka)] 64)).alloc (.cells #[.bool tb,.string (str nb),.string (str kb)] 64)
 have hways:=cmpB_ways na nb;cases ta <;> cases tb;case true.false=>
  clear hl he hways;go_enter Tryz.func185,Tryz.ntmps185;go_wp2_with fail;go_ret;exact⟨by rw[hR.out];rfl,hw _⟩
 case false.true=>
  clear hl he hways;go_enter Tryz.func185,Tryz.ntmps185;go_wp2_with fail;go_ret;exact⟨by rw[hR.out];rfl,hw _⟩
 all_goals
  rcases hways with ⟨h1,h2⟩ | ⟨h1,h2,h3⟩ | ⟨h1,h2,h3⟩
  ·rw[h1] at hR;rw[decide_eq_true h2] at hl;clear h1 h2 he;go_enter Tryz.func185,Tryz.ntmps185;go_wp2_with fail;go_ret;exact⟨by rw[hR.out];rfl,hw _⟩
  ·rw[h1] at hR;rw[decide_eq_false h2] at hl;rw[decide_eq_true h3] at he;clear h1 h2 h3;go_enter Tryz.func185,Tryz.ntmps185;go_wp2_with fail;go_ret;exact⟨by rw[hR.out];rfl,hw _⟩
  ·rw[h1] at hR;rw[decide_eq_false h2] at hl;rw[decide_eq_false h3] at he;clear h1 h2 h3;go_enter Tryz.func185,Tryz.ntmps185;go_wp2_with fail;go_ret;exact⟨by rw[hR.out];rfl,hw _⟩
end Go.Proofs.YtlbdklaggalgfaaGreatDoor
namespace Go.Aq.Wd
def contF:Nat→Nat→List UInt8→Option Nat
 | 0,c,_=>some c
 | _+1,_,[]=>none
 | k+1,c,b::t=>if b.toNat / 64=2 then contF k (c * 64+b.toNat % 64) t else none
def finS (n lo:Nat) (o:Option Nat):Option (Nat×Nat):=match o with
 | none=>none
 | some c=>if c<lo∨1114111<c∨(55296≤c∧c≤57343) then none else some (c,n+1)
def refSign (r:List UInt8):Option (Nat×Nat):=match r with
 | []=>none
 | x::t=>if x.toNat<128 then some (x.toNat,1) else if 192≤x.toNat∧x.toNat≤223 then finS 1 128 (contF 1 (x.toNat % 32) t) else if 224≤x.toNat∧x.toNat≤239 then finS 2 2048 (contF 2 (x.toNat % 16) t)
  else if 240≤x.toNat∧x.toNat≤247 then finS 3 65536 (contF 3 (x.toNat % 8) t) else none
def goodO (d:Nat×Nat):Option (Nat×Nat):=if bad d then none else some d
theorem goodO_bad:goodO (65533,1)=none:=rfl
theorem goodO_ok (c n:Nat) (h:¬(c=65533∧n=1)):goodO (c,n)=some (c,n):=by unfold goodO;rw[not_bad c n h];rfl
theorem refSign_eq (r:List UInt8) (h:r≠[]):refSign r=goodO (dec r):=by
 obtain⟨x,t,rfl⟩:∃x t,r=x::t:=by cases r;(exact absurd rfl h);exact⟨_,_,rfl⟩
 have b0:=x.toNat_lt;unfold refSign dec;simp only[List.getD_cons_zero,List.getD_cons_succ,List.length_cons];unfold Lib.decodeN;by_cases h1:x.toNat<128
 ·simp only[if_pos h1];rw[goodO_ok _ _ (by omega)]
 ·simp only[if_neg h1];by_cases h2:192≤x.toNat∧x.toNat≤223
  ·rw[if_pos h2];cases t with
   | nil=>
    rw[if_neg (by simp),if_neg (by simp),if_neg (by simp)];simp[contF,finS,goodO_bad]
   | cons y t=>
    have b1:=y.toNat_lt;simp only[List.getD_cons_zero,List.length_cons,contF];by_cases hy:y.toNat / 64=2
    ·rw[if_pos hy,if_pos (by omega)];simp only[finS,ge_iff_le];by_cases hc:128≤x.toNat % 32 * 64+y.toNat % 64;·rw[if_pos hc,if_neg (by omega),goodO_ok _ _ (by omega)]
     ·rw[if_neg hc,if_pos (by omega),goodO_bad]
    ·rw[if_neg hy,if_neg (by omega),if_neg (by omega),if_neg (by omega)];simp[finS,goodO_bad]
  ·rw[if_neg h2];by_cases h3:224≤x.toNat∧x.toNat≤239
   ·rw[if_pos h3,if_neg (by omega)]
    match t with
    | []=>
     rw[if_neg (by simp),if_neg (by simp)];simp[contF,finS,goodO_bad]
    | [y]=>
     rw[if_neg (by simp),if_neg (by simp)];by_cases hy:y.toNat / 64=2 <;> simp[contF,finS,goodO_bad,hy]
    | y::z::t=>
     have b1:=y.toNat_lt;have b2:=z.toNat_lt;simp only[List.getD_cons_zero,List.getD_cons_succ,List.length_cons,contF];by_cases hy:y.toNat / 64=2
     ·rw[if_pos hy];by_cases hz:z.toNat / 64=2
      ·rw[if_pos hz,if_pos (by omega)];simp only[finS,ge_iff_le];have e:(x.toNat % 16 * 64+y.toNat % 64) * 64+z.toNat % 64=x.toNat % 16 * 4096+y.toNat % 64 * 64+z.toNat % 64:=by omega
       rw[e];split
       ·rename_i hc;rw[if_neg (by omega),goodO_bad]
       ·rename_i hc;rw[if_pos (by omega),goodO_ok _ _ (by omega)]
      ·rw[if_neg hz,if_neg (by omega),if_neg (by omega)];simp[finS,goodO_bad]
     ·rw[if_neg hy,if_neg (by omega),if_neg (by omega)];simp[finS,goodO_bad]
   ·rw[if_neg h3];by_cases h4:240≤x.toNat∧x.toNat≤247
    ·rw[if_pos h4,if_neg (by omega),if_neg (by omega)]
     match t with
     | []=>
      rw[if_neg (by simp)];simp[contF,finS,goodO_bad]
     | [y]=>
      rw[if_neg (by simp)];by_cases hy:y.toNat / 64=2 <;> simp[contF,finS,goodO_bad,hy]
     | [y,z]=>
      rw[if_neg (by simp)];by_cases hy:y.toNat / 64=2 <;> by_cases hz:z.toNat / 64=2 <;> simp[contF,finS,goodO_bad,hy,hz]
     | y::z::u::t=>
      have b1:=y.toNat_lt;have b2:=z.toNat_lt;have b3:=u.toNat_lt;simp only[List.getD_cons_zero,List.getD_cons_succ,List.length_cons,contF];by_cases hy:y.toNat / 64=2
      ·rw[if_pos hy];by_cases hz:z.toNat / 64=2
       ·rw[if_pos hz];by_cases hu:u.toNat / 64=2
        ·rw[if_pos hu,if_pos (by omega)];simp only[finS,ge_iff_le];have e:((x.toNat % 8 * 64+y.toNat % 64) * 64+z.toNat % 64) * 64+u.toNat % 64=x.toNat % 8 * 262144+y.toNat % 64 * 4096+z.toNat % 64 * 64+u.toNat % 64:=by omega
         rw[e];split
         ·rename_i hc;rw[if_neg (by omega),goodO_bad]
         ·rename_i hc;rw[if_pos (by omega),goodO_ok _ _ (by omega)]
        ·rw[if_neg hu,if_neg (by omega)];simp[finS,goodO_bad]
       ·rw[if_neg hz,if_neg (by omega)];simp[finS,goodO_bad]
      ·rw[if_neg hy,if_neg (by omega)];simp[finS,goodO_bad]
    ·rw[if_neg h4,if_neg (by omega),if_neg (by omega),if_neg (by omega)];rw[goodO_bad]
end Go.Aq.Wd
