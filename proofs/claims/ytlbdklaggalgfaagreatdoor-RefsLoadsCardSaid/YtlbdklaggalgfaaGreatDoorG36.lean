/- WordI WordJ -/
import Derived.Test.YtlbdklaggalgfaaGreatDoorG35
set_option linter.unusedVariables false
set_option maxHeartbeats 4000000
namespace Go.Aq
open Go.RowKit
theorem builder_chgR {T e:TypeId} {B b R:Nat} {bs:List Value} {w w':World} (h:Lib.IsBuilder T e B b bs w) (c:Chg [R] w w') (hR:R<B):Lib.IsBuilder T e B b bs w':=by
 have one:∀p,Lib.BuilderAt T e B b p bs w→Lib.BuilderAt T e B b p bs w':=by
  rintro p ⟨hB,v,hb,hown,hne⟩;refine⟨hB,v,(c.block b (Array.getElem?_eq_some_iff.1 hb).1 (by simp;omega)).trans hb,⟨hown.1,?_⟩,hne⟩;rcases hown.2 with h2 | ⟨g,cap,cur,hv,hbg,hg,r⟩
  ·exact .inl h2
  ·exact .inr ⟨g,cap,cur,hv,hbg,(c.block g (Array.getElem?_eq_some_iff.1 hg).1 (by simp;omega)).trans hg,r⟩
 rcases h with h | h
 ·exact .inl (one _ h)
 ·exact .inr (one _ h)
theorem Chg.belowS {S:List Nat} {B:Nat} {a b c:World} (h:Chg S a b) (k:Below B b c) (hB:a.heap.size≤B):Chg S a c:=
 ⟨k.os.trans h.os,k.tape.trans h.tape,k.output.trans h.output,Nat.le_trans h.size k.size,fun i hi hS=>(k.block i (by omega)).trans (h.block i hi hS)⟩
end Go.Aq
namespace Go.Proofs.YtlbdklaggalgfaaGreatDoor
open Go.RowKit Go.Aq Go.Aq.Wd
theorem Rd.below {w w':World} {R:Nat} {l:List UInt8} {p e B:Nat} (h:Rd w R l p e) (k:Below B w w') (hR:R<B):Rd w' R l p e:=by
 unfold Rd Blk at *;rw[k.block R hR];exact h
def qtext (q:List UInt8×Nat×Nat):List UInt8:=if q.2.2=0 then q.1 else []
theorem quoted_any (w:World) (hT:Tabs w) (R:Nat) (hoff:Off R) (l:List UInt8) (p:Nat) (h:Rd w R l p 0) (hp:p<l.length) (hl:l.length≤1000000000):
  Calls Tryz.prog 208 #[.pointer (some ⟨R,0,none⟩)] w fun x w'=>x=.returned (.string (str (qtext (quotW (l.drop (p+1))))))∧Rd w' R l (p+1+(quotW (l.drop (p+1))).2.1) (quotW (l.drop (p+1))).2.2∧Chg [R] w w':=by
 have hsz:=str_size l;have hRlt:R<w.heap.size:=Blk.lt h;obtain⟨B,hB⟩:∃B,w.heap.size=B:=⟨_,rfl⟩;have hI0:Lib.IsBuilder 68 5 w.heap.size w.heap.size (Bs []) (w.alloc (.cells #[.pointer none,.slice none 0 0] 68)):=Lib.fresh_isBuilder 68 5 w;have hR0:Rd (w.alloc (.cells #[.pointer none,.slice none 0 0] 68)) R l p 0:=Blk.alloc h _;have hc0:Chg [R] w (w.alloc (.cells #[.pointer none,.slice none 0 0] 68)):=(Chg.refl _ _).alloc _;have hs0:B≤(w.alloc (.cells #[.pointer none,.slice none 0 0] 68)).heap.size:=by simp;omega
 rw[hB] at hI0 hRlt;generalize hw0:w.alloc (.cells #[.pointer none,.slice none 0 0] 68)=w0 at *;have d1:w0.cell? ⟨R,1,none⟩=some (.int .i64 (p:Nat)):=Blk.cell hR0 1;have f1:=Blk.frozen hR0 1;have hR1:=Blk.set hR0 1 (.int .i64 ((p+1:Nat):Int));have hc01:Chg [R] w0 (w0.setCell ⟨R,1,none⟩ (.int .i64 ((p+1:Nat):Int))):=(Chg.refl [R] w0).setCell (by simp) _;have e1:((p+1:Nat):Int)=(p:Int)+1:=by omega
 rw[e1] at hR1 hc01;have hpb:(p:Int)≤1000000000:=by omega
 go_enter Tryz.func208,Tryz.ntmps208;go_wp2_with fail;have hR1':Rd (w0.setCell ⟨R,1,none⟩ (.int .i64 ((p:Int)+1))) R l (p+1) 0:=by unfold Rd;rw[e1];exact hR1
 have hI1:=builder_chgR hI0 hc01 hRlt;have hc1:=hc0.tr hc01;have hs1:B≤(w0.setCell ⟨R,1,none⟩ (.int .i64 ((p:Int)+1))).heap.size:=Nat.le_trans hs0 hc01.size;clear hR1 hI0 hc01 hR0 hc0 hs0 d1 f1 hw0;generalize w0.setCell ⟨R,1,none⟩ (.int .i64 ((p:Int)+1))=w1 at *;go_loopg [] (l.length - p) (fun k wr=>∃(q e:Nat) (acc:List UInt8),Rd wr R l q e∧Lib.IsBuilder 68 5 B B (Bs acc) wr∧Chg [R] w wr∧B≤wr.heap.size∧p+1≤q∧q≤l.length∧
  ((e=0∧q+k=l.length+1∧acc.length≤4 * q∧quotW (l.drop (p+1))=(acc++(quotW (l.drop q)).1,q - (p+1)+(quotW (l.drop q)).2.1,(quotW (l.drop q)).2.2))∨(e≠0∧k=0∧(quotW (l.drop (p+1))).2=(q - (p+1),e))))
 case atStart=>exact⟨p+1,0,[],hR1',hI1,hc1,hs1,by omega,by omega,.inl ⟨rfl,by omega,by simp,by simp⟩⟩
 case round=>
  clear hR1' hI1 hc1 hs1;obtain⟨q,e,acc,hR,hI,hc,hs,hpq,hql,hst⟩:=hrel;have c2:wr.cell? ⟨R,2,none⟩=some (.int .i64 (e:Nat)):=Blk.cell hR 2;rcases hst with ⟨rfl,hqk,hacc,hqw⟩ | ⟨he0,hk0,hqw⟩
  ·have hTr:Tabs wr:=hT.chgR hc hoff;have hsg:=sign_any wr hTr R l q 0 hR hql hl;have hS:sgnR (l.drop q) 0=if l.drop q=[] then (65533,0,0) else if bad (dec (l.drop q)) || low (dec (l.drop q)).1 then (0,0,4) else ((dec (l.drop q)).1,(dec (l.drop q)).2,0):=rfl
   have hqb:(q:Int)≤1000000000:=by omega
   by_cases hr:l.drop q=[]
   ·rw[if_pos hr] at hS;rw[hS] at hsg;rw[hr,quotW_nil] at hqw;have HQ:=zH hqw;clear hqw hS hr hR;go_wp2_with fail;refine hsg.mono ?_;rintro e w2 ⟨rfl,hR2,c3⟩;have hI2:=builder_chgR hI c3 hRlt;have hc2:=hc.tr c3;have d2:w2.cell? ⟨R,2,none⟩=some (.int .i64 (0:Nat)):=Blk.cell hR2 2;go_wp2_with fail;refine (fail_any w2 R l q 0 2 hR2).mono ?_;rintro e w3 ⟨rfl,hR3,c4⟩;go_wp2_with fail;go_roundg 0;case measure=>omega
    case rel=>exact⟨q,2,acc,hR3,builder_chgR hI2 c4 hRlt,hc2.tr c4,Nat.le_trans hs (Nat.le_trans c3.size c4.size),hpq,hql,.inr ⟨by decide,rfl,by rw[HQ.out];rfl⟩⟩
   ·rw[if_neg hr] at hS;have hd1:=dec_fst (l.drop q);have hdp:=dec_pos (l.drop q);have hle:=dec_le _ hr;rw[List.length_drop] at hle;have hpw:=quotW_step _ hr;have hgood:=dec_good _ hr;cases hbl:(bad (dec (l.drop q)) || low (dec (l.drop q)).1) with
    | true=>
     rw[hbl,if_pos rfl] at hS hpw;rw[hS] at hsg;rw[hpw] at hqw;have HQ:=zH hqw;clear hqw hS hr hR hbl hpw hd1 hdp hle hgood;go_wp2_with fail;refine hsg.mono ?_;rintro e w2 ⟨rfl,hR2,c3⟩;have hI2:=builder_chgR hI c3 hRlt;have hc2:=hc.tr c3;have d2:w2.cell? ⟨R,2,none⟩=some (.int .i64 (4:Nat)):=Blk.cell hR2 2;go_wp2_with fail;go_roundg 0;case measure=>omega
     case rel=>exact⟨q,4,acc,hR2,hI2,hc2,Nat.le_trans hs c3.size,hpq,hql,.inr ⟨by decide,rfl,by rw[HQ.out];rfl⟩⟩
    | false=>
     have hbf:bad (dec (l.drop q))=false:=by
      cases hx:bad (dec (l.drop q)) with
      | false=>rfl
      | true=>rw[hx] at hbl;simp at hbl
     have hokc:=(hgood hbf).1;have hnx:((l.drop q).drop (dec (l.drop q)).2)=l.drop (q+(dec (l.drop q)).2):=by rw[List.drop_drop]
     have hescR:escR l q=match escO (l.drop q) with | some k=>(k,q+(writ k).length,0) | none=>if escShort (l.drop q) then (0,l.length,2) else (0,q,4):=rfl
     have hdw:∀k:Nat,((l.drop q).drop (writ k).length)=l.drop (q+(writ k).length):=fun k=>by rw[List.drop_drop]
     have hlq:(l.drop q).length=l.length - q:=by rw[List.length_drop]
     have hesc:∀k,escO (l.drop q)=some k→okR k∧q+(writ k).length≤l.length:=fun k hk=>by
      obtain⟨h1,h2⟩:=escO_some _ _ hk;have:=(List.isPrefixOf_iff_prefix.1 h2).length_le;rw[List.length_drop] at this;exact⟨escs_ok k h1,by omega⟩
     rw[hbl,if_neg (by simp)] at hS hpw;rw[hS] at hsg;simp only[hnx,hdw,hlq] at hpw;clear hnx hbl hS hgood hbf hdw hlq;generalize escO (l.drop q)=eo at *;generalize escShort (l.drop q)=es at *;generalize dec (l.drop q)=d at *;obtain⟨c,n⟩:=d;simp only at hd1 hdp hle hpw hsg hokc;have t0:((n:Int)==0)=false:=by simp;omega
     have hI2f:=fun w2 (c3:Chg [R] wr w2)=>builder_chgR hI c3 hRlt
     by_cases h34:c=34
     ·rw[if_pos h34] at hpw;rw[hpw] at hqw;have hX:qtext (quotW (l.drop (p+1)))=acc∧p+1+(quotW (l.drop (p+1))).2.1=q+1∧(quotW (l.drop (p+1))).2.2=0:=by
       unfold qtext;rw[hqw];exact⟨by simp,by simp only;omega,rfl⟩
      have HX:=zH hX;subst h34;clear hX hqw hpw hr hR hescR hesc hokc;go_wp2_with fail;refine hsg.mono ?_;rintro e w2 ⟨rfl,hR2,c3⟩;have hI2:=hI2f w2 c3;have hc2:=hc.tr c3;have hs2:=Nat.le_trans hs c3.size;have d2:w2.cell? ⟨R,2,none⟩=some (.int .i64 (0:Nat)):=Blk.cell hR2 2;have d1:w2.cell? ⟨R,1,none⟩=some (.int .i64 (q:Nat)):=Blk.cell hR2 1;have f1:=Blk.frozen hR2 1;have hR3:=Blk.set hR2 1 (.int .i64 ((q+1:Nat):Int));have hcs:Chg [R] w2 (w2.setCell ⟨R,1,none⟩ (.int .i64 ((q+1:Nat):Int))):=(Chg.refl [R] w2).setCell (by simp) _;have e2:((q+1:Nat):Int)=(q:Int)+1:=by omega
      rw[e2] at hR3 hcs;have hR3':Rd (w2.setCell ⟨R,1,none⟩ (.int .i64 ((q:Int)+1))) R l (q+1) 0:=by unfold Rd;rw[e2];exact hR3
      have hI3:=builder_chgR hI2 hcs hRlt;go_wp2_with fail;refine (Tryz.Builder_String_any B B acc _ hI3 (Nat.le_trans hs2 hcs.size)).mono ?_;rintro e w3 ⟨rfl,hb3⟩;go_wp2_with fail;go_ret;exact⟨by rw[HX.out.1];rfl,by rw[HX.out.2.1,HX.out.2.2];exact hR3'.below hb3 hRlt,(hc2.tr hcs).belowS hb3 (by omega)⟩
     ·have t34:((c:Int)==34)=false:=by simp;omega
      rw[if_neg h34] at hpw;by_cases h92:c=92
      ·rw[if_pos h92] at hpw;subst h92;have hea:=fun w2 (c3:Chg [R] wr w2) (hR2:Rd w2 R l q 0)=>escape_any w2 (hTr.chgR c3 hoff) R hoff l q hR2 hql hl
       clear t34;cases eo with
       | some k=>
        simp only at hescR hpw;obtain⟨hokk,hkl⟩:=hesc k rfl;rw[hescR] at hea;rw[hpw] at hqw;simp only at hqw hea;have HQ:=zA hqw hqk;have hel:=enc1_len k;have hw1:1≤(writ k).length:=List.length_pos_iff.2 (writ_ne k);have hw6:=writ_len k;clear hqw hpw hr hR hescR hesc h34 hqk hokc;generalize hwk:(writ k).length=wk at *;have HWK:=zH hwk;clear hwk;go_wp2_with fail;refine hsg.mono ?_;rintro e w2 ⟨rfl,hR2,c3⟩;have hI2:=hI2f w2 c3;have hc2:=hc.tr c3;have hs2:=Nat.le_trans hs c3.size;have d2:w2.cell? ⟨R,2,none⟩=some (.int .i64 (0:Nat)):=Blk.cell hR2 2;have hea2:=hea w2 c3 hR2;clear hea;go_wp2_with fail;refine hea2.mono ?_;rintro e w3 ⟨rfl,hR3,c4⟩;have hI3:=builder_chgR hI2 c4 hRlt;have hc3:=hc2.tr c4;have hs3:=Nat.le_trans hs2 c4.size;clear hea2;go_wp2_with fail;refine (wRune B B acc k hokk w3 hI3 (by omega) hs3).mono ?_;rintro e w4 ⟨⟨rr,rfl⟩,hI4,hb4,-⟩;have hR4:=hR3.below hb4 hRlt;have hc4:=hc3.belowS hb4 (by omega);have hs4:=Nat.le_trans hs3 hb4.size;go_wp2_with fail;go_roundg (gk - wk);case measure=>have:=HQ.out.2;omega
        case rel=>
         refine⟨q+wk,0,acc++enc1 k,hR4,hI4,hc4,hs4,by omega,by omega,.inl ⟨rfl,by have:=HQ.out.2;omega,by simp;omega,?_⟩⟩;rw[HQ.out.1,List.append_assoc];congr 2;omega
       | none=>
        have hfin:∃q2 e2,q≤q2∧q2≤l.length∧e2≠0∧escR l q=(0,q2,e2)∧(quotW (l.drop (p+1))).2=(q2 - (p+1),e2):=by
         simp only at hescR hpw;rw[hqw];cases es with
         | true=>exact⟨l.length,2,hql,Nat.le_refl _,by decide,by rw[hescR];rfl,by rw[hpw];simp only[if_true];congr 1;omega⟩
         | false=>exact⟨q,4,Nat.le_refl _,hql,by decide,by rw[hescR];rfl,by rw[hpw];simp⟩
        obtain⟨q2,e2,hq2,hq2l,he2,her,hqf⟩:=hfin;rw[her] at hea;simp only at hea;have HQ:=zH hqf;clear hqw hpw hr hR hescR hesc h34 hokc her hqf;go_wp2_with fail;refine hsg.mono ?_;rintro e w2 ⟨rfl,hR2,c3⟩;have hI2:=hI2f w2 c3;have hc2:=hc.tr c3;have hs2:=Nat.le_trans hs c3.size;have d2:w2.cell? ⟨R,2,none⟩=some (.int .i64 (0:Nat)):=Blk.cell hR2 2;have hea2:=hea w2 c3 hR2;clear hea;go_wp2_with fail;refine hea2.mono ?_;rintro e w3 ⟨rfl,hR3,c4⟩;have hI3:=builder_chgR hI2 c4 hRlt;have hc3:=hc2.tr c4;have hs3:=Nat.le_trans hs2 c4.size;clear hea2;go_wp2_with fail;refine (wRune B B acc 0 (.inl (by decide)) w3 hI3 (by omega) hs3).mono ?_;rintro e w4 ⟨⟨rr,rfl⟩,hI4,hb4,-⟩;have hR4:=hR3.below hb4 hRlt;have hc4:=hc3.belowS hb4 (by omega);have hs4:=Nat.le_trans hs3 hb4.size;go_wp2_with fail;go_roundg 0;case measure=>omega
        case rel=>exact⟨q2,e2,_,hR4,hI4,hc4,hs4,by omega,hq2l,.inr ⟨he2,rfl,HQ.out⟩⟩
      ·have t92:((c:Int)==92)=false:=by simp;omega
       rw[if_neg h92] at hpw;rw[hpw] at hqw;simp only at hqw;have HQ:=zA hqw hqk;have hel:=enc1_len c;clear hqw hpw hr hR hescR hesc h34 h92 hqk;go_wp2_with fail;refine hsg.mono ?_;rintro e w2 ⟨rfl,hR2,c3⟩;have hI2:=hI2f w2 c3;have hc2:=hc.tr c3;have hs2:=Nat.le_trans hs c3.size;have d2:w2.cell? ⟨R,2,none⟩=some (.int .i64 (0:Nat)):=Blk.cell hR2 2;go_wp2_with fail;refine (wRune B B acc c hokc w2 hI2 (by omega) hs2).mono ?_;rintro e w3 ⟨⟨rr,rfl⟩,hI3,hb3,-⟩;have hR3:=hR2.below hb3 hRlt;have hc3:=hc2.belowS hb3 (by omega);have hs3:=Nat.le_trans hs2 hb3.size;have d1:w3.cell? ⟨R,1,none⟩=some (.int .i64 (q:Nat)):=Blk.cell hR3 1;have f1:=Blk.frozen hR3 1;have hR4:=Blk.set hR3 1 (.int .i64 ((q+n:Nat):Int));have hcs:Chg [R] w3 (w3.setCell ⟨R,1,none⟩ (.int .i64 ((q+n:Nat):Int))):=(Chg.refl [R] w3).setCell (by simp) _;have e2:((q+n:Nat):Int)=(q:Int)+(n:Int):=by omega
       rw[e2] at hR4 hcs;have hni:(n:Int)≤4:=by omega
       go_wp2_with fail;go_roundg (gk - n);case measure=>have:=HQ.out.2;omega
       case rel=>
        refine⟨q+n,0,acc++enc1 c,?_,builder_chgR hI3 hcs hRlt,hc3.tr hcs,Nat.le_trans hs3 hcs.size,by omega,by omega,.inl ⟨rfl,by have:=HQ.out.2;omega,by simp;omega,?_⟩⟩;·unfold Rd;rw[e2];exact hR4
        ·rw[HQ.out.1,List.append_assoc];congr 2;omega
  ·have t1:((e:Int)==0)=false:=by simp;omega
   have hX:qtext (quotW (l.drop (p+1)))=[]∧p+1+(quotW (l.drop (p+1))).2.1=q∧(quotW (l.drop (p+1))).2.2=e:=by
    unfold qtext;rw[hqw];exact⟨by rw[if_neg he0],by simp only;omega,rfl⟩
   have HX:=zH hX;clear hX hqw he0;go_wp2_with fail;go_ret;exact⟨by rw[HX.out.1];rfl,by rw[HX.out.2.1,HX.out.2.2];exact hR,hc⟩
end Go.Proofs.YtlbdklaggalgfaaGreatDoor
namespace Go.Aq.Wd
theorem quot_err:∀(n:Nat) (r:List UInt8),r.length≤n→(quotW r).2.1≤r.length∧(((quotW r).2.2=0)∨((quotW r).2.2=2∧(quotW r).2.1=r.length)∨(quotW r).2.2=4)
 | 0,r,hn=>by
  have:r=[]:=List.eq_nil_of_length_eq_zero (by omega);subst this;rw[quotW_nil];simp
 | n+1,r,hn=>by
  by_cases hr:r=[];·subst hr;rw[quotW_nil];simp
  ·have hl:1≤r.length:=List.length_pos_iff.2 hr;have hp:=dec_pos r;have hle:=dec_le r hr;rw[quotW_step r hr];split;·simp
   ·split;·simp;omega
    ·split
     ·cases ho:escO r with
      | some k=>
       have hw:1≤(writ k).length:=List.length_pos_iff.2 (writ_ne k);obtain⟨h1,h2⟩:=escO_some _ _ ho;have hpl:=(List.isPrefixOf_iff_prefix.1 h2).length_le;have ih:=quot_err n (r.drop (writ k).length) (by rw[List.length_drop];omega);rw[List.length_drop] at ih;simp only;omega
      | none=>
       simp only;split;·simp
       ·simp
     ·have ih:=quot_err n (r.drop (dec r).2) (by rw[List.length_drop];omega);rw[List.length_drop] at ih;simp only;omega
theorem head32 (r:List UInt8) (h:r≠[]):(dec r).1=32↔r.headD 0=32:=by
 obtain⟨x,t,rfl⟩:∃x t,r=x::t:=by cases r;(exact absurd rfl h);exact⟨_,_,rfl⟩
 simp only[List.headD_cons];by_cases hx:x.toNat<128
 ·rw[dec_ascii x t hx];constructor;·intro e;rw[←u8e x 32 e];rfl
  ·rintro rfl;rfl
 ·have:=dec_high x t (by omega);constructor;·intro e;omega
  ·rintro rfl;exact absurd (by decide) hx
end Go.Aq.Wd
namespace Go.Proofs.YtlbdklaggalgfaaGreatDoor
open Go.RowKit Go.Aq Go.Aq.Wd
theorem word_any (w:World) (hT:Tabs w) (R:Nat) (hoff:Off R) (l:List UInt8) (p:Nat) (h:Rd w R l p 0) (hp:p<l.length) (hl:l.length≤1000000000):
  Calls Tryz.prog 177 #[.pointer (some ⟨R,0,none⟩)] w fun x w'=>∃t,x=.returned (.string (str t))∧((wordW (l.drop p)).2.2=0→t=(wordW (l.drop p)).1)∧Rd w' R l (p+(wordW (l.drop p)).2.1) (wordW (l.drop p)).2.2∧Chg [R] w w':=by
 have hsz:=str_size l;have c0:w.cell? ⟨R,0,none⟩=some (.string (str l)):=Blk.cell h 0;have c1:w.cell? ⟨R,1,none⟩=some (.int .i64 (p:Nat)):=Blk.cell h 1;have ix:=fun w'=>idxS w' l p hp
 have hhd:(l.drop p).headD 0=l[p]:=by rw[List.drop_eq_getElem_cons hp];rfl
 have hx:=(l[p]).toNat_lt;by_cases h34:l[p]=34
 ·have hx34:(l[p]).toNat=34:=by rw[h34];rfl
  rw[hx34] at ix;have hw:wordW (l.drop p)=if (quotW (l.drop (p+1))).2.2≠0 then ([],1+(quotW (l.drop (p+1))).2.1,(quotW (l.drop (p+1))).2.2)
    else if l.drop (p+(1+(quotW (l.drop (p+1))).2.1))≠[]∧(l.drop (p+(1+(quotW (l.drop (p+1))).2.1))).headD 0≠32 then ([],1+(quotW (l.drop (p+1))).2.1,4)
    else ((quotW (l.drop (p+1))).1,1+(quotW (l.drop (p+1))).2.1,0):=by
   unfold wordW;rw[if_pos (by rw[hhd];exact h34)];simp only[List.drop_drop]
  have hqe:=quot_err _ (l.drop (p+1)) (Nat.le_refl _);rw[List.length_drop] at hqe;have hqa:=fun w' h1 h2=>quoted_any w' h1 R hoff l p h2 hp hl
  generalize quotW (l.drop (p+1))=Q at *;obtain⟨qt,qm,qe⟩:=Q;simp only at hw hqe hqa;have e3:p+(1+qm)=p+1+qm:=by omega
  rw[e3] at hw;obtain⟨q2,hq2⟩:∃q2,p+1+qm=q2:=⟨_,rfl⟩;rw[hq2] at hw hqa;have hq2l:q2≤l.length:=by omega
  have hsa:=fun w' h1 h2=>sign_any w' h1 R l q2 qe h2 hq2l hl
  have hfin:∃cc nn e2,sgnR (l.drop q2) qe=(cc,nn,e2)∧((e2=0∧0<nn∧cc≠32∧(wordW (l.drop p)).2=(1+qm,4))∨(¬(e2=0∧0<nn∧cc≠32)∧(wordW (l.drop p)).2=(1+qm,e2)∧(e2=0→qe=0∧(wordW (l.drop p)).1=qt)))∧cc≤2000000∧nn≤4∧e2≤4:=by
   have hd1:=dec_fst (l.drop q2);have hdp:=dec_pos (l.drop q2);have hsg:sgnR (l.drop q2) qe=if l.drop q2=[] then (65533,0,qe) else if bad (dec (l.drop q2)) || low (dec (l.drop q2)).1 then (0,0,4) else ((dec (l.drop q2)).1,(dec (l.drop q2)).2,qe):=rfl
   by_cases hr:l.drop q2=[]
   ·rw[if_pos hr] at hsg;refine⟨_,_,_,hsg,.inr ⟨by simp,?_,?_⟩,by decide,by decide,by omega⟩
    ·rw[hw];by_cases h0:qe=0;·rw[if_neg (by simpa using h0),if_neg (fun hh=>hh.1 hr),h0]
     ·rw[if_pos h0]
    ·intro h0;exact⟨h0,by rw[hw,if_neg (by simpa using h0),if_neg (fun hh=>hh.1 hr)]⟩
   ·rw[if_neg hr] at hsg;have h32:=head32 _ hr;have hqe2:qe≠2:=by
     rintro rfl;apply hr;refine List.drop_eq_nil_of_le ?_;omega
    cases hbl:(bad (dec (l.drop q2)) || low (dec (l.drop q2)).1) with
    | true=>
     rw[hbl,if_pos rfl] at hsg;refine⟨_,_,_,hsg,.inr ⟨by simp,?_,by simp⟩,by decide,by decide,by decide⟩;rw[hw];by_cases h0:qe=0
     ·have hne:(l.drop q2).headD 0≠32:=fun e=>by
       have hc:=h32.2 e;have hdd:dec (l.drop q2)=((dec (l.drop q2)).1,(dec (l.drop q2)).2):=rfl;rw[hdd,hc,not_bad 32 _ (by omega)] at hbl;simp[low] at hbl
      rw[if_neg (by simpa using h0),if_pos ⟨hr,hne⟩]
     ·rw[if_pos h0];simp only;congr 1;omega
    | false=>
     rw[hbl,if_neg (by simp)] at hsg;refine⟨_,_,_,hsg,?_,hd1,hdp.2,by omega⟩;by_cases h0:qe=0
     ·by_cases hc:(dec (l.drop q2)).1=32
      ·right;refine⟨fun hh=>hh.2.2 hc,?_,fun _=>⟨h0,?_⟩⟩;·rw[hw,if_neg (by simpa using h0),if_neg (fun hh=>hh.2 (h32.1 hc)),h0]
       ·rw[hw,if_neg (by simpa using h0),if_neg (fun hh=>hh.2 (h32.1 hc))]
      ·left;refine⟨h0,by omega,hc,?_⟩;rw[hw,if_neg (by simpa using h0),if_pos ⟨hr,fun e=>hc (h32.2 e)⟩]
     ·right;refine⟨fun hh=>h0 hh.1,?_,fun e=>absurd e h0⟩;rw[hw,if_pos h0]
  obtain⟨cc,nn,e2,hsgn,hcase,hcb,hnb,heb⟩:=hfin;rw[hsgn] at hsa;simp only at hsa;have HC:=zH hcase;have HQ2:=zH hq2;clear hw hqe hhd h34 hx34 hsgn hcase e3 hq2 hx;go_enter Tryz.func177,Tryz.ntmps177;go_wp2_with fail;go_quiet (fail);have hTd:=hT.chg ((Chg.refl [] w).drewN nq);have hRd:Rd (w.drewN nq) R l p 0:=h;have hcd:=(Chg.refl [R] w).drewN nq;have hqa2:=hqa _ hTd hRd;clear hqa c0 c1 h;generalize w.drewN nq=w1 at *;go_wp2_with fail;refine hqa2.mono ?_;rintro e w2 ⟨rfl,hR2,c2⟩;have hsa2:=hsa w2 (hTd.chgR c2 hoff) hR2;have hc2:=hcd.tr c2;clear hqa2 hsa;go_wp2_with fail;refine hsa2.mono ?_;rintro e w3 ⟨rfl,hR3,c3⟩;have hc3:=hc2.tr c3;have d2:w3.cell? ⟨R,2,none⟩=some (.int .i64 (e2:Nat)):=Blk.cell hR3 2;clear hsa2;rcases HC.out with ⟨rfl,hn0,hc32,hwd⟩ | ⟨hnot,hwd,hok⟩
  ·have t2:decide ((0:Int)<(nn:Int))=true:=by simp;omega
   have t3:((cc:Int) != 32)=true:=by simp;omega
   have HW:=zH hwd;clear hwd HC;go_wp2_with fail;refine (fail_any w3 R l q2 0 4 hR3).mono ?_;rintro e w4 ⟨rfl,hR4,c4⟩;go_wp2_with fail;go_ret;exact⟨_,rfl,fun h0=>by rw[HW.out] at h0;simp at h0,by rw[HW.out,show p+(1+qm)=q2 by have:=HQ2.out;omega];exact hR4,hc3.tr c4⟩
  ·have HW:=zH hwd;have HK:=zH hok;have fin:∀x:Ending,x=.returned (.string (str (qtext (qt,qm,qe))))→∃t,x=.returned (.string (str t))∧((wordW (l.drop p)).2.2=0→t=(wordW (l.drop p)).1)∧Rd w3 R l (p+(wordW (l.drop p)).2.1) (wordW (l.drop p)).2.2∧Chg [R] w w3:=fun x hx=>by
    refine⟨_,hx,fun h0=>?_,?_,hc3⟩
    ·rw[HW.out] at h0;obtain⟨h1,h2⟩:=HK.out h0;rw[h2];unfold qtext;rw[if_pos h1]
    ·rw[HW.out,show p+(1+qm)=q2 by have:=HQ2.out;omega];exact hR3
   have FIN:=zH fin;clear hwd hok HC fin HW HK;by_cases h0:e2=0
   ·subst h0;by_cases hn:nn=0
    ·subst hn;go_wp2_with fail;go_ret;exact FIN.out _ rfl
    ·have hc:cc=32:=by
      by_cases hc:cc=32;·exact hc
      ·exact absurd ⟨rfl,by omega,hc⟩ hnot
     subst hc;have t2:decide ((0:Int)<(nn:Int))=true:=by simp;omega
     go_wp2_with fail;go_ret;exact FIN.out _ rfl
   ·have t1:((e2:Int)==0)=false:=by simp;omega
    go_wp2_with fail;go_ret;exact FIN.out _ rfl
 ·have hxn:(l[p]).toNat≠34:=fun e=>h34 (by rw[←u8e _ _ e];rfl)
  have hw:wordW (l.drop p)=((l.drop p).take (plainW (l.drop p)).1,(plainW (l.drop p)).1,plainE (l.drop p)):=by
   unfold wordW;rw[if_neg (by rw[hhd];exact h34)];rfl
  have hpa:=fun w' h1 h2=>plain_any w' h1 R hoff l p h2 (by omega) hl
  rw[hw];simp only;generalize (plainW (l.drop p)).1=k at *;generalize plainE (l.drop p)=pe at *;generalize (l.drop p).take k=tt at *;have t1:(((l[p]).toNat:Int) != 34)=true:=by simp;omega
  generalize (l[p]).toNat=x at *;clear hw hhd h34;go_enter Tryz.func177,Tryz.ntmps177;go_wp2_with fail;go_quiet (fail);have hTd:=hT.chg ((Chg.refl [] w).drewN nq);have hRd:Rd (w.drewN nq) R l p 0:=h;have hcd:=(Chg.refl [R] w).drewN nq;have hpa2:=hpa _ hTd hRd;clear hpa c0 c1 h;generalize w.drewN nq=w1 at *;go_wp2_with fail;refine hpa2.mono ?_;rintro e w2 ⟨rfl,hR2,c2⟩;go_wp2_with fail;go_ret;exact⟨_,rfl,fun _=>rfl,hR2,hcd.tr c2⟩
end Go.Proofs.YtlbdklaggalgfaaGreatDoor
