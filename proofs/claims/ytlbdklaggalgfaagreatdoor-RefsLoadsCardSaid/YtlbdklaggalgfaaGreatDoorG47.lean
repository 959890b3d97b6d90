/- RqE FzN FzO -/
import Derived.Test.YtlbdklaggalgfaaGreatDoorG46
set_option linter.unusedSimpArgs false
set_option linter.unusedVariables false
set_option maxHeartbeats 8000000
namespace Go.Proofs.YtlbdklaggalgfaaGreatDoor
section
open Go.RowKit Go.Aq Go.Aq.Wd
theorem ends_len {P:List (List UInt8)} {x:List UInt8} (hx:x∈P):x.length≤(ends P).length:=by
 induction P with
 | nil=>cases hx
 | cons a t ih=>
  have e:(ends (a::t)).length=a.length+1+(ends t).length:=by simp[ends];omega
  rcases List.mem_cons.1 hx with rfl | hx
  ·omega
  ·have:=ih hx;omega
theorem readW_bound {B:Nat}:∀(P:List (List UInt8)) (m:List RefD),readW P=some m→(∀x∈P,x.length≤B)→∀r∈m,r.name.length≤4 * B∧r.key.length≤4 * B
 | [],m,h,_=>by
  simp only[readW,Option.some.injEq] at h;subst h;intro r hr;cases hr
 | x::t,m,h,hB=>by
  simp only[readW] at h;cases hx:lineW x with
  | none=>rw[hx] at h;cases h
  | some y=>
   rw[hx] at h;obtain⟨m',hm,rfl⟩:=Option.map_eq_some_iff.1 h;have ih:=readW_bound t m' hm (fun z hz=>hB z (by simp[hz]));intro r hr;rcases List.mem_cons.1 hr with rfl | hr
   ·have h1:=lineW_len hx;have h2:=hB x (by simp);omega
   ·exact ih r hr
set_option maxRecDepth 100000 in
theorem rdecode_any (w:World) (v:Value) (n:Nat) (b:List UInt8) (hv:Sees w 1 v n (Bs b)) (hb:b.length≤200000):
  Calls Tryz.prog 25 #[v] w fun e w'=>∃v',e=.returned (.tuple #[v',.int .i64 (decL b).2])∧Sees w' 3 v' (decL b).1.length (Rfs (decL b).1)∧Chg [] w w':=by
 have hcv:=run_str8 hv;obtain⟨ao,cap,rfl,-⟩:=hv.shape;have hsp:=split_any b w (by omega);have HV:=zH hv;have HB:=zH hb;have hgo:∀(w':World),Chg [] w w'→Hid (decL b=([],4))→∃v':Value,(Ending.returned (.tuple #[.slice none 0 0,.int .i64 4]))=.returned (.tuple #[v',.int .i64 (decL b).2])∧Sees w' 3 v' (decL b).1.length (Rfs (decL b).1)∧Chg [] w w':=fun w' c h=>by
  rw[h.out];exact⟨_,rfl,Sees.nil _ _,c⟩
 have HGO:=zH hgo;clear hgo;clear hv hb;go_enter Tryz.func25,Tryz.ntmps25;go_wp2_with fail;refine hsp.mono ?_;rintro e w1 ⟨v1,P,q,rfl,hP,hF1⟩;clear hsp hcv;obtain⟨np,HNP⟩:∃k,Hid (P.length=k):=⟨_,rfl⟩;rw[HNP.out] at hF1;obtain⟨L1,HL1⟩:∃k,Hid (np+1=k):=⟨_,rfl⟩;rw[HL1.out] at hF1;have hPb:Hid (∀x∈P,x.length≤200000):=fun x hx=>by
  have h1:=ends_len hx;have h2:=congrArg List.length hP.eq;rw[List.length_append] at h2;have:=HB.out;omega
 have hnp:np≤200000:=by
  have h2:=congrArg List.length hP.eq;rw[List.length_append] at h2;have h3:P.length≤(ends P).length:=by
   clear h2 hF1 HNP hP hPb
   induction P with
   | nil=>simp
   | cons a t ih=>
    have e:(ends (a::t)).length=a.length+1+(ends t).length:=by simp[ends];omega
    rw[List.length_cons];omega
  have:=HB.out;have:=HNP.out;omega
 obtain⟨gS,cS,rfl,-,-,hgS⟩:=hF1.own.pos (by have:=HL1.out;omega);have hSc:Hid (∀i (h:i<P.length),w1.cell? ⟨gS,i,none⟩=some (.string (str (P[i]'h)))):=fun i h=>by
  have h0:i<L1:=by have:=HL1.out;have:=HNP.out;omega
  rw[hF1.own.cellAt i (by omega),Ss_append,List.getElem?_append_left (by rw[Ss_len];exact h),Ss_get _ _ h]
 have HPI:=zH hP;have HC1:=zH hF1.chg;have HGS:=zH hgS;have e3:(L1:Int) - 1=(np:Int):=by have:=HL1.out;omega
 have w3:wrap64 (np:Int)=(np:Int):=w64R _ (by omega);have w4':IntKind.i64.wrap (np:Int)=(np:Int):=wrapR _ (by omega);have HNB:=zH hnp;clear hF1 hP hgS hnp;go_wp2_with fail;go_loopg [5,6] np (fun gk (v5 v6:Value) wr=>∃(i:Nat) (a5:Option Addr) (c5:Nat) (out:List RefD),v5=.slice a5 i c5∧v6=.int .i64 (i:Int)∧i+gk=np∧Hid (readW (P.take i)=some out)∧Hid (Fresh w1 wr 64 3 (.slice a5 i c5) i (Rfs out)));case atStart=>exact⟨0,none,0,[],rfl,rfl,by omega,rfl,Fresh.nil _ _ _⟩
 case round=>
  obtain⟨i,a5,c5,out,rfl,rfl,hik,HO,HF⟩:=hrel;by_cases hin:i<np
  ·have t1:decide ((i:Int)<(np:Int))=true:=decide_eq_true (by omega);have t1':decide (i<np)=true:=decide_eq_true hin;have hip:i<P.length:=by rw[HNP.out];exact hin
   have x0:=HF.out.chg.cell_some (hSc.out i hip) (by simp);have hw:=rwords_any P[i] wr (by have:=hPb.out _ (List.getElem_mem hip);omega);have htk:=List.take_succ_eq_append_getElem hip;have hbad:=fun h=>dec_bad HPI.out hip h
   have hlong:=fun h:100<i=>dec_long HPI.out (by omega)
   have hsn:=readW_snoc P[i] _ out HO.out;rw[←htk] at hsn;have hlw:lineW P[i]=if (wordsL P[i]).2.2=0∧(wordsL P[i]).1.length=3 then some ⟨decide ((wordsL P[i]).1.getD 0 []=[116,97,103]),(wordsL P[i]).1.getD 1 [],(wordsL P[i]).1.getD 2 []⟩ else none:=rfl
   have i1:(i:Int)≤200000:=by have:=HNB.out;omega
   have i2:i<L1:=by have:=HL1.out;omega
   have HI:=zB hik hsn hlw;have HBD:=zA hbad hlong;clear hik htk hsn hlw hbad hlong;generalize P[i]=x at *;clear hip;obtain⟨W,hW⟩:∃W,(wordsL x).1=W:=⟨_,rfl⟩;obtain⟨wc,hwc⟩:∃k,(wordsL x).2.2=k:=⟨_,rfl⟩;obtain⟨wp,hwp⟩:∃k,(wordsL x).2.1=k:=⟨_,rfl⟩;rw[hW,hwc,hwp] at hw;rw[hW,hwc] at HI;clear hW hwc hwp;obtain⟨k,HK⟩:∃k,Hid (W.length=k):=⟨_,rfl⟩;rw[HK.out] at hw;have hcw:=HC1.out.nil HF.out.chg;by_cases h0:wc=0
   ·subst h0;by_cases h3:k=3
    ·subst h3;by_cases h100:100<i
     ·have hde:Hid (decL b=([],4)):=HBD.out.2 h100;have t5:decide ((100:Int)<(i:Int))=true:=decide_eq_true (by omega);have t5':decide (100<i)=true:=decide_eq_true h100;have HCW:=zH hcw;clear h100 hcw;go_wp2_with fail;refine hw.mono ?_;rintro e w2 ⟨v2,rfl,hF2⟩;obtain⟨a2,p2,rfl,-⟩:=hF2.shape;have HC2:=zH (HCW.out.nil hF2.chg);clear hw hF2 x0;go_wp2_with fail;go_ret2;exact HGO.out _ HC2.out hde
     ·have t5:decide ((100:Int)<(i:Int))=false:=decide_eq_false (by omega);have t5':decide (100<i)=false:=decide_eq_false h100;obtain⟨l0,l1,l2,rfl⟩:∃l0 l1 l2,W=[l0,l1,l2]:=by
       have:=HK.out
       match W,this with
       | [a,b,c],_=>exact⟨a,b,c,rfl⟩
      obtain⟨tb,htb⟩:∃tb,tb=decide (l0=[116,97,103]):=⟨_,rfl⟩;have hsn:Hid (readW (P.take (i+1))=some (out++[⟨tb,l1,l2⟩])):=by
       obtain⟨-,h1,h2⟩:=HI.out;rw[if_pos ⟨rfl,rfl⟩] at h2;show _=_;rw[h1,h2,htb];rfl
      have e1:((str l0).toList==(⟨#[116,97,103]⟩:ByteArray).toList)=tb:=by rw[show (⟨#[116,97,103]⟩:ByteArray)=str [116,97,103] from rfl,str_eq,htb]
      have e2:((str l0).toList==[116,97,103])=tb:=by rw[str_toList,htb];rw[Bool.eq_iff_iff];simp
      have hb3:(i+1) * 40≤140737488355328:=by omega
      have hb4:i+1≤9223372036854775807:=by omega
      have HIK:=zH HI.out.1;have HCW:=zH hcw;have HE:=zA e1 e2;clear h100 hcw htb e1 e2;go_wp2_with fail;refine hw.mono ?_;rintro e w2 ⟨v2,rfl,hF2⟩;obtain⟨g,p2,rfl,-,-,hgl⟩:=hF2.own.pos (by decide);have z0:w2.cell? ⟨g,0,none⟩=some (.string (str l0)):=by rw[hF2.own.cellAt 0 (by simp)];rfl
      have z1:w2.cell? ⟨g,1,none⟩=some (.string (str l1)):=by rw[hF2.own.cellAt 1 (by simp)];rfl
      have z2:w2.cell? ⟨g,2,none⟩=some (.string (str l2)):=by rw[hF2.own.cellAt 2 (by simp)];rfl
      have HF2:Hid (Fresh w1 w2 64 3 (.slice a5 i c5) i (Rfs out)):=HF.out.to hF2.chg;have hgn:g∉(Value.slice a5 i c5).ownBlock.toList:=fun hm=>by
       have h1:=HF.out.own.lt _ hm;have h2:=hF2.new g (by simp[Value.ownBlock]);omega
      have HZ:Hid (∀W,Chg (Value.slice a5 i c5).ownBlock.toList w2.drew W→W.cell? ⟨g,0,none⟩=some (.string (str l0))∧W.cell? ⟨g,1,none⟩=some (.string (str l1))∧W.cell? ⟨g,2,none⟩=some (.string (str l2))):=fun W c=>by
       have c':Chg (Value.slice a5 i c5).ownBlock.toList w2 W:=((Chg.refl _ w2).drew).tr c;exact⟨c'.cell_some z0 hgn,c'.cell_some z1 hgn,c'.cell_some z2 hgn⟩
      clear hw hF2 x0 z0 z1 z2 hgn hgl t1 t1' HF;go_upto_region 9 with (fail);clear t5 t5' i1 i2;have HF0:Hid (Fresh w1 w2.drew 64 3 (.slice a5 i c5) i (Rfs out)):=HF2.out.to ((Chg.refl [] w2).drew);have c0:Chg (Value.slice a5 i c5).ownBlock.toList w2.drew w2.drew:=Chg.refl _ _;refine wp_region_E (Value.slice a5 i c5).ownBlock.toList (by kernel_rfl) ?_;generalize w2.drew=W0 at *;refine tE 0 (.slice a5 i c5) c0 (fun w4 c4=>?_) ?_;·go_simp
      refine yG ?_;refine tE 1 (.slice (some ⟨g,0,none⟩) 3 p2) c0 (fun w4 c4=>?_) ?_;·go_simp
      refine yG ?_;refine tE 2 (.pointer (some ⟨g,0,none⟩)) c0 (fun w4 c4=>?_) ?_;·go_simp
      refine yG ?_;refine tE 3 (.string (str l0)) c0 (fun w4 c4=>?_) ?_
      ·obtain⟨z0,z1,z2⟩:=HZ.out w4 c4;go_simp
      refine yG ?_;refine tE 4 (.bool tb) c0 (fun w4 c4=>?_) ?_
      ·obtain⟨e1,e2⟩:=HE.out;go_simp
      refine yG ?_;refine tE 5 (.slice (some ⟨g,0,none⟩) 3 p2) c0 (fun w4 c4=>?_) ?_;·go_simp
      refine yG ?_;refine tE 6 (.pointer (some ⟨g,1,none⟩)) c0 (fun w4 c4=>?_) ?_;·go_simp
      refine yG ?_;refine tE 7 (.string (str l1)) c0 (fun w4 c4=>?_) ?_
      ·obtain⟨z0,z1,z2⟩:=HZ.out w4 c4;go_simp
      refine yG ?_;refine tE 8 (.slice (some ⟨g,0,none⟩) 3 p2) c0 (fun w4 c4=>?_) ?_;·go_simp
      refine yG ?_;refine tE 9 (.pointer (some ⟨g,2,none⟩)) c0 (fun w4 c4=>?_) ?_;·go_simp
      refine yG ?_;refine tE 10 (.string (str l2)) c0 (fun w4 c4=>?_) ?_
      ·obtain⟨z0,z1,z2⟩:=HZ.out w4 c4;go_simp
      refine yG ?_;refine tE 11 (.agg #[.bool tb,.string (str l1),.string (str l2)]) c0 (fun w4 c4=>?_) ?_;·go_simp
      refine yG ?_;refine oE 12 ?_;have hb:Blk (W0.alloc (.cells #[.bool tb,.string (str l1),.string (str l2)] 64)) W0.heap.size #[.bool tb,.string (str l1),.string (str l2)] 64:=Blk.new _ _ _;have cB:Chg [] W0 (W0.alloc (.cells #[.bool tb,.string (str l1),.string (str l2)] 64)):=(Chg.refl [] _).alloc _;have HC0:=zH c0;clear c0;go_simp;have c18:=HC0.out.nil cB;have hO18:=HF0.out.to cB;refine⟨c18,?_⟩;have hs1:Sees (W0.alloc (.cells #[.bool tb,.string (str l1),.string (str l2)] 64)) 3 (.slice (some ⟨W0.heap.size,0,none⟩) 1 1) 1 (Rfs [⟨tb,l1,l2⟩]):=Sees.blk hb;generalize W0.heap.size=KK at *;generalize W0.alloc (.cells #[.bool tb,.string (str l1),.string (str l2)] 64)=w18 at *;clear cB hb;refine yG ?_;refine oE 13 ?_;refine wp_app _ _ 33 (by rfl) sl_q (v:=(.slice a5 i c5)) (n:=i) (xs:=Rfs out) hO18.own (by rfl) (vx:=(.slice (some ⟨KK,0,none⟩) 1 1)) (m:=1) (news:=Rfs [⟨tb,l1,l2⟩]) hs1 (by rfl) (rfs_ones _) hb3 hb4 ?_;intro v19 w19 o19 e19 n19;have c19:Chg (Value.slice a5 i c5).ownBlock.toList W0 w19:=c18.tr e19;have hF19:=hO18.app o19 e19 n19;clear o19 e19 n19;refine⟨c19,?_⟩;refine yG ?_;refine tE 14 (v19) c19 (fun w4 c4=>?_) ?_;·go_simp
      refine yG ?_;refine wpAnyE_done (by kernel_rfl) ?_ _;obtain⟨a19,q19,rfl,-⟩:=hF19.shape;rw[←Rfs_app] at hF19;have HF19:=zH hF19;have w5:wrap64 ((i:Int)+1)=((i+1:Nat):Int):=by have:=HNB.out;unfold wrap64;omega
      clear hF19 c19 c18 hO18 hs1;go_wp2_with fail;go_roundg (gk - 1);case measure=>have:=HIK.out;omega
      case rel=>exact⟨i+1,a19,q19,out++[⟨tb,l1,l2⟩],rfl,by first | rfl | rw[w5],by have:=HIK.out;omega,hsn,HF19⟩
    ·have hde:Hid (decL b=([],4)):=HBD.out.1 (by
      rw[HI.out.2.2,if_neg (fun h=>h3 (by rw[←HK.out];exact h.2))])
     have t5:((k:Int) != 3)=true:=by simp;omega
     have t5':((k:Int)==3)=false:=by simp;omega
     have HCW:=zH hcw;clear h3 hcw;go_wp2_with fail;refine hw.mono ?_;rintro e w2 ⟨v2,rfl,hF2⟩;obtain⟨a2,p2,rfl,-⟩:=hF2.shape;have HC2:=zH (HCW.out.nil hF2.chg);clear hw hF2 x0;go_wp2_with fail;go_ret2;exact HGO.out _ HC2.out hde
   ·have hde:Hid (decL b=([],4)):=HBD.out.1 (by
     rw[HI.out.2.2,if_neg (fun h=>h0 h.1)])
    have t5:((wc:Int) != 0)=true:=by simp;omega
    have t5':((wc:Int)==0)=false:=by simp;omega
    have HCW:=zH hcw;clear h0 hcw;go_wp2_with fail;refine hw.mono ?_;rintro e w2 ⟨v2,rfl,hF2⟩;obtain⟨a2,p2,rfl,-⟩:=hF2.shape;have HC2:=zH (HCW.out.nil hF2.chg);clear hw hF2 x0;go_wp2_with fail;go_ret2;exact HGO.out _ HC2.out hde
  ·have t1:decide ((i:Int)<(np:Int))=false:=decide_eq_false (by omega);have t1':decide (i<np)=false:=decide_eq_false hin;have hii:i=np:=by omega
   have hrd:readW P=some out:=by
    have h:=HO.out;rw[hii,←HNP.out,List.take_length] at h;exact h
   have hda:=dec_all HPI.out hrd;have hol:out.length=i:=by rw[readW_len hrd,HNP.out,hii]
   have hen:=rencode_any wr (.slice a5 i c5) out (by rw[hol];exact HF.out.own.sees) (by have:=HNB.out;omega) (fun r hr=>by have:=readW_bound P out hrd hPb.out r hr;omega);have hcw:=HC1.out.nil HF.out.chg;have HCW:=zH hcw;have HOL:=zH hol;have HDA:=zH hda;have HS:=zH HF.out.own.sees;have henc:encodeL out=if mayL out then (out.flatMap lineR,0) else ([],4):=rfl
   clear hik hin hii hrd hda hol hcw;cases hM:mayL out with
   | false=>
    rw[hM,if_neg (by simp)] at henc;rw[henc] at hen;have hde:Hid (decL b=([],4)):=by show _=_;rw[HDA.out,henc,if_neg (by simp)]
    simp only[List.length_nil] at hen;clear hM henc;go_wp2_with fail;refine hen.mono ?_;rintro e w2 ⟨v2,rfl,hF2⟩;obtain⟨a2,p2,rfl,-⟩:=hF2.shape;have HC2:=zH (HCW.out.nil hF2.chg);clear hen hF2;go_wp2_with fail;go_ret2;exact HGO.out _ HC2.out hde
   | true=>
    rw[hM,if_pos rfl] at henc;rw[henc] at hen;simp only at hen;have hde:Hid (decL b=if out.flatMap lineR=b then (out,0) else ([],4)):=by
     show _=_;rw[HDA.out,henc];by_cases h:out.flatMap lineR=b;·rw[if_pos h,if_pos (by rw[h])]
     ·rw[if_neg h,if_neg (fun e=>h (by injection e))]
    clear hM henc;generalize out.flatMap lineR=y at *;obtain⟨yl,hyl⟩:∃k,y.length=k:=⟨_,rfl⟩;rw[hyl] at hen;have HYL:=zH hyl;clear hyl;go_wp2_with fail;refine hen.mono ?_;rintro e w2 ⟨v2,rfl,hF2⟩;obtain⟨a2,p2,rfl,-⟩:=hF2.shape;have hsm:=same_any w2 (.slice a2 yl p2) (.slice ao n cap) yl n y b hF2.own.sees (HV.out.chg0 (HCW.out.nil hF2.chg));have HC2:=zH (HCW.out.nil hF2.chg);have HS2:=zH (HS.out.chg0 hF2.chg);clear hen hF2;by_cases hy:y=b
    ·rw[decide_eq_true hy] at hsm;have hde2:Hid (decL b=(out,0)):=by show _=_;rw[hde.out,if_pos hy]
     clear hy hde;go_wp2_with fail;refine hsm.mono ?_;rintro e w3 ⟨rfl,rfl⟩;clear hsm;go_wp2_with fail;go_ret2;rw[hde2.out];exact⟨_,rfl,by rw[HOL.out];exact HS2.out,HC2.out⟩
    ·rw[decide_eq_false hy] at hsm;have hde2:Hid (decL b=([],4)):=by show _=_;rw[hde.out,if_neg hy]
     clear hy hde;go_wp2_with fail;refine hsm.mono ?_;rintro e w3 ⟨rfl,rfl⟩;clear hsm;go_wp2_with fail;go_ret2;exact HGO.out _ HC2.out hde2
end
section
open Go.RowKit Go.Aq Go.Aq.Fy Go.Maps
theorem eyes_dropG {ao:Option Addr} {n cap k m c c':Nat} {j:Nat} (h:j∈eyes (.slice (if cap=k then ao else ao.map (·.add k)) n c')) (hn:n≤m):j∈eyes (.slice ao m c):=by
 by_cases hj:j∈eyes (.slice ao m c);·exact hj
 ·have:=disj_dropG (S:=[j]) (cap:=cap) (k:=k) (n:=n) (c':=c') (m:=m) (ao:=ao) (c:=c) (fun i hi hi'=>by simp at hi';subst hi';exact hj hi) hn;exact absurd (List.mem_singleton.2 rfl) (this j h)
def RdR (w:World) (p B:Nat) (b:Sec):Prop:=∃v,Blk w p #[v,.bool false] 180∧Sees w 1 v b.length (Bs b)∧p∉eyes v∧∀k∈eyes v,k<B
theorem RdR.chg {w w':World} {p B:Nat} {b:Sec} {T:List Nat} (h:RdR w p B b) (c:Chg T w w') (hT:∀k∈T,k≠p∧B≤k):RdR w' p B b:=by
 obtain⟨v,h1,h2,h3,h4⟩:=h;exact⟨v,h1.chg c (fun hh=>(hT p hh).1 rfl),h2.chg c (fun k hk hk'=>by have:=h4 k hk;have:=(hT k hk').2;omega),h3,h4⟩
set_option maxRecDepth 100000 in
theorem take_ok (w:World) (p B:Nat) (a b:Sec) (n:Nat) (hn:a.length=n) (h:RdR w p B (a++b)) (hl:(a++b).length≤1000000):
  Calls Tryz.prog 156 #[.pointer (some ⟨p,0,none⟩),.int .i64 n] w fun e w'=>∃v,e=.returned v∧Sees w' 1 v n (Bs a)∧RdR w' p B b∧Chg [p] w w':=by
 obtain⟨v,hb,hs,hp,hB⟩:=h;obtain⟨m,hm⟩:∃m,(a++b).length=m:=⟨_,rfl⟩;rw[hm] at hs hl;have hmn:m=n+b.length:=by rw[←hm,List.length_append,hn]
 obtain⟨ao,cap,rfl,hcap,-⟩:=hs.shape;have ht:=hs.takeG (at_:=n) (by omega);have hd:=hs.dropG (at_:=n) (by omega);have e1:(Bs (a++b)).take n=Bs a:=by rw[←Bs_take,List.take_append_of_le_length (by omega),List.take_of_length_le (by omega)]
 have e2:(Bs (a++b)).drop n=Bs b:=by rw[←Bs_drop,←hn,List.drop_left]
 have e3:m - n=b.length:=by omega
 rw[e1] at ht;rw[e2,e3] at hd;obtain⟨⟨x0,x1⟩,f0,f1⟩:=hb.c2;have t1:decide ((m:Int)<(n:Int))=false:=by simp;omega
 have t1':decide (m<n)=false:=by simp;omega
 have s1:(n:Int)≤(cap:Int):=by omega
 have s2:(n:Int)≤(m:Int):=by omega
 have hpT:p∉eyes (.slice ao n cap):=fun hh=>(disj_takeG (S:=[p]) (n:=n) (m:=m) (c:=cap) (ao:=ao) (fun j hj hj'=>by simp at hj';subst hj';exact hp hj) (by omega)) p hh (by simp)
 have hpD:p∉eyes (.slice (if cap=n then ao else ao.map (·.add n)) (m - n) (cap - n)):=fun hh=>(disj_dropG (S:=[p]) (cap:=cap) (k:=n) (n:=m - n) (c':=cap - n) (m:=m) (ao:=ao) (c:=cap) (fun j hj hj'=>by simp at hj';subst hj';exact hp hj) (by omega)) p hh (by simp)
 rw[e3] at hpD;have hBD:∀j∈eyes (.slice (if cap=n then ao else ao.map (·.add n)) (m - n) (cap - n)),j<B:=fun j hj=>hB j (eyes_dropG hj (by omega))
 rw[e3] at hBD;have fin:∀v',Sees w 1 v' b.length (Bs b)→p∉eyes v'→(∀j∈eyes v',j<B)→Sees (w.setCell ⟨p,0,none⟩ v') 1 (.slice ao n cap) n (Bs a)∧RdR (w.setCell ⟨p,0,none⟩ v') p B b∧Chg [p] w (w.setCell ⟨p,0,none⟩ v'):=fun v' h1 h2 h3=>by
  have c:Chg [p] w (w.setCell ⟨p,0,none⟩ v'):=(Chg.refl _ _).setCell (by simp) _;have hb':=hb.set 0 v';simp only[List.setIfInBounds_toArray,List.set_cons_zero] at hb';exact⟨ht.chg c (fun j hj hj'=>by simp at hj';subst hj';exact hpT hj),⟨v',hb',h1.chg c (fun j hj hj'=>by simp at hj';subst hj';exact h2 hj),h2,h3⟩,c⟩
 by_cases hc:cap=n
 ·subst hc;simp only[if_true] at hd hpD hBD;have hm2:m - cap=0:=by omega
  have hc0:cap - cap=0:=by omega
  rw[hc0] at hd hpD hBD;rw[←e3,hm2] at hpD hBD;have hd':Sees w 1 (.slice ao 0 0) b.length (Bs b):=by rw[←e3,hm2] at hd ⊢;exact hd
  have HH:=zH (fin _ hd' hpD hBD);clear hs ht hd hd' e1 e2 hn hm hmn hb hp hB hBD hpT hpD hm2 hc0 e3 fin;go_enter Tryz.func156,Tryz.ntmps156;go_wp2_with fail;go_ret;exact⟨_,rfl,HH.out⟩
 ·rw[if_neg hc] at hd hpD hBD;rw[←e3] at hd hpD hBD;have HH:=zH (fin _ (by rw[←e3];exact hd) hpD hBD);clear hs ht hd e1 e2 hn hm hmn hb hp hB hBD hpT hpD e3 fin;go_enter Tryz.func156,Tryz.ntmps156;go_wp2_with fail;go_ret;exact⟨_,rfl,HH.out⟩
theorem number_ok (w:World) (p B:Nat) (k wd:Nat) (b:Sec) (h1:1≤wd) (h6:wd≤6) (hk:k<256^wd) (h:RdR w p B (beB k wd++b)) (hl:(beB k wd++b).length≤1000000):
  Calls Tryz.prog 99 #[.pointer (some ⟨p,0,none⟩),.int .i64 wd] w fun e w'=>e=.returned (.int .i64 k)∧RdR w' p B b∧Chg [p] w w':=by
 have ht:=take_ok w p B (beB k wd) b wd (beB_length k wd) h hl;have hrd:=fun w' v hv=>readBig_ok w' v wd 0 wd (beB k wd) hv h1 h6 (by omega) (by omega)
 have e1:beVal (((beB k wd).drop 0).take wd)=k:=by rw[List.drop_zero,List.take_of_length_le (by rw[beB_length];exact Nat.le_refl _),beVal_beB hk]
 rw[e1] at hrd;clear h hl e1 hk h1 h6;go_enter Tryz.func99,Tryz.ntmps99;go_wp2_with fail;refine ht.mono ?_;rintro e w1 ⟨v,rfl,hS,hR,hc⟩;have hrd1:=hrd w1 v hS;obtain⟨av,cv,rfl,-⟩:=hS.shape;have HH:=zA hR hc;clear hrd hS hR hc ht;go_wp2_with fail;refine hrd1.mono ?_;rintro e w2 ⟨rfl,rfl⟩;go_wp2_with fail;go_ret;exact⟨rfl,HH.out⟩
end
end Go.Proofs.YtlbdklaggalgfaaGreatDoor
namespace Go.Aq
open Go.RowKit
theorem results_tc {P:Program} {fn:Func} {p u:Tmp} {tu:TypeId} (h:fn.results=#[.tmp p,.cell u tu]) (tmps:Array Value) (w:World) {g:Nat} {x y:Value} (hu:tmps.getD u undef=.pointer (some ⟨g,0,none⟩))
  (ha:∀w,(isAgg tu).run P w=.ok true w) (hs:∀w,(sizeOf tu).run P w=.ok 2 w) (c0:w.cell? ⟨g,0,none⟩=some x) (c1:w.cell? ⟨g,1,none⟩=some y):(results fn tmps).run P w=.ok (.tuple #[tmps.getD p undef,.agg #[x,y]]) w:=by
 have hu':tmps[u]?.getD undef=.pointer (some ⟨g,0,none⟩):=by simpa using hu
 have hl:(loadCells ⟨g,0,none⟩ 2).run P w=.ok #[x,y] w:=by
  have e0:(⟨g,0,none⟩:Addr).add 0=⟨g,0,none⟩:=by simp[Addr.add]
  have e1:(⟨g,0,none⟩:Addr).add 1=⟨g,1,none⟩:=by simp[Addr.add]
  simp[go_sem,loadCells,e0,e1,c0,c1]
 simp only[results,h];simp[Sem.run_bind,Result.andThen,loadVar,ha,hs,hu',asAddr,hl]
end Go.Aq
namespace Go.Proofs.YtlbdklaggalgfaaGreatDoor
open Go.RowKit Go.Aq Go.Aq.Fy Go.Maps
def UsedR (w:World) (mu:Nat) (U:List Nat):Prop:=∃f,MapF Tryz.prog 3 w mu f∧∀k:Nat,f (.int .i64 (k:Int))=if k∈U then some (.bool true) else none
theorem UsedR.chg {w w':World} {mu:Nat} {U T:List Nat} (h:UsedR w mu U) (c:Chg T w w') (hm:mu∉T):UsedR w' mu U:=by
 obtain⟨f,h1,h2⟩:=h;exact⟨f,h1.chg c hm,h2⟩
theorem UsedR.lt {w:World} {mu:Nat} {U:List Nat} (h:UsedR w mu U):mu<w.heap.size:=by obtain⟨f,h1,_⟩:=h;exact h1.lt
theorem zeroBl (w:World):(zeroValue 4).run Tryz.prog w=.ok (.bool false) w:=by kernel_rfl
theorem UsedR.look {w:World} {mu:Nat} {U:List Nat} (h:UsedR w mu U) (k:Nat) (hk:k∉U) (hb:k≤1000000):(Instr.lookup 181 (.map (some mu)) (.int .i64 (k:Int)) false).run Tryz.prog w=.ok (.bool false) w:=by
 obtain⟨f,h1,h2⟩:=h;have:=(h1.look lawI Tryz.underlying181 (zeroBl w) (goodI k (by omega))).1;rw[h2 k,if_neg hk] at this;exact this
theorem UsedR.put {w:World} {mu:Nat} {U:List Nat} (h:UsedR w mu U) (k:Nat) (hb:k≤1000000):∃w',(Instr.mapUpdate 181 (.map (some mu)) (.int .i64 (k:Int)) (.bool true)).run Tryz.prog w=.ok () w'∧UsedR w' mu (U++[k])∧Chg [mu] w w':=by
 obtain⟨f,h1,h2⟩:=h;obtain⟨w',r,m,c⟩:=h1.put (v:=.bool true) lawI Tryz.underlying181 (goodI k (by omega));refine⟨w',r,⟨_,m,fun j=>?_⟩,c⟩;unfold updF;by_cases e:j=k;·subst e;simp
 ·have e':(Value.int IntKind.i64 (j:Int))≠Value.int IntKind.i64 (k:Int):=fun hh=>by injection hh with _ hh;omega
  rw[if_neg e',h2 j];simp[e]
theorem UsedR.new {w w':World} {mu:Nat} (h:MapF Tryz.prog 3 w mu fun _=>none):UsedR w mu []:=⟨_,h,fun k=>by simp⟩
theorem lin8 {x l:Nat} (h:x≤65535) (hl:l=cnt x):l≤256:=by rw[hl];unfold cnt;omega
theorem lin9 {k all:Nat} (h:k<all) (ha:all≤4096):k≤1000000∧k<65536∧¬all≤k:=by omega
def FileEnd (w:World) (p B mu:Nat) (U:List Nat) (s:Nm) (x:FileD) (rest:Sec) (e:Ending) (w':World):Prop:=
 ∃v,e=.returned (.tuple #[.string (str s),.agg #[.int .i64 x.size,v]])∧Sees w' 1 v x.blocks.length (ints x.blocks)∧(∀k∈eyes v,w.heap.size≤k)∧RdR w' p B rest∧UsedR w' mu (U++x.blocks)∧Chg [p,mu] w w'
set_option maxRecDepth 100000 in
theorem file_ok (w:World) (p B mu all:Nat) (U:List Nat) (s:Nm) (x:FileD) (rest:Sec) (hR:RdR w p B (rowB (s,x)++rest)) (hB:B≤w.heap.size) (hpl:p<w.heap.size) (hU:UsedR w mu U) (hpm:p≠mu) (hl:(rowB (s,x)++rest).length≤1000000) (hmB:B≤mu) (hBp:B≤p)
  (hs:nameOk s=true) (hz:x.size≤65535) (hbl:x.blocks.length=cnt x.size) (hk:∀k∈x.blocks,k<all) (ha:all≤4096) (hnd:x.blocks.Nodup) (hUn:∀k∈x.blocks,k∉U):
  Calls Tryz.prog 100 #[.pointer (some ⟨p,0,none⟩),.int .i64 all,.map (some mu)] w (FileEnd w p B mu U s x rest):=by
 obtain⟨n,hn⟩:∃n,x.size=n:=⟨_,rfl⟩;obtain⟨m,hm⟩:∃m,x.blocks.length=m:=⟨_,rfl⟩;have hsl:=nameOk_len hs;obtain⟨sl,hsl2⟩:∃sl,s.length=sl:=⟨_,rfl⟩;rw[hn] at hz hbl;rw[hm] at hbl;have hm4:=lin8 hz hbl;obtain⟨r3,hr3⟩:∃r3,(x.blocks.flatMap fun k=>beB k 2)++rest=r3:=⟨_,rfl⟩;obtain⟨r2,hr2⟩:∃r2,beB n 4++r3=r2:=⟨_,rfl⟩;obtain⟨r1,hr1⟩:∃r1,s++r2=r1:=⟨_,rfl⟩;have e0:rowB (s,x)++rest=beB sl 1++r1:=by
  have h1:beB s.length 1=[UInt8.ofNat s.length]:=by rw[beB_succ];simp[beB,Go.Aq.leBy]
  rw[←hsl2,h1,←hr1,←hr2,←hr3,←hn];simp[rowB,List.append_assoc]
 have hl1:(beB sl 1++r1).length≤1000000:=by rw[←e0];exact hl
 have hl2:r1.length≤1000000:=by rw[List.length_append] at hl1;omega
 have hl3:r2.length≤1000000:=by rw[←hr1,List.length_append] at hl2;omega
 have hl4:r3.length≤1000000:=by rw[←hr2,List.length_append] at hl3;omega
 rw[e0] at hR;rw[hsl2] at hsl;have HH:=zH (And.intro hU (And.intro hpm (And.intro hmB (And.intro hBp (And.intro hk (And.intro ha (And.intro hnd (And.intro hUn (And.intro hr3 (And.intro hn (And.intro hm (And.intro hsl2 (And.intro hl4 (And.intro hB hpl))))))))))))));have hcnt:=fun w'=>count_ok w' n (by omega)
 rw[←hbl] at hcnt;have hname:=fun w'=>name_ok w' s (by omega)
 rw[hs] at hname;have hzf:=zeroFile;clear hU hmB hBp hk ha hnd hUn hr3 hn hm hl e0 hbl hs hB;go_enter Tryz.func100,Tryz.ntmps100;go_upto_region 1 with (fail);obtain⟨w1,hw1⟩:∃w1,w.alloc (.cells #[.int .i64 0,.slice none 0 0] 103)=w1:=⟨_,rfl⟩;obtain⟨A0,hA0⟩:∃A0,w.heap.size=A0:=⟨_,rfl⟩;have hb0:Blk w1 A0 #[.int .i64 0,.slice none 0 0] 103:=by rw[←hw1,←hA0];exact Blk.new _ _ _
 have k1:Chg [] w w1:=by rw[←hw1];exact (Chg.refl [] w).alloc _
 rw[hw1,hA0];have hn1:=number_ok w1 p B sl 1 r1 (by decide) (by decide) (by omega) (hR.chg k1 (by simp)) hl1;have H1:=zB hb0 k1 hA0;clear hw1 hb0 k1 hA0 hR hl1;go_wp2_with fail;refine hn1.mono ?_;rintro e w2 ⟨rfl,hR2,c2⟩;have ht2:=take_ok w2 p B s r2 sl hsl2 (by rw[hr1];exact hR2) (by rw[hr1];exact hl2);have H2:=zH c2;clear hn1 hR2 c2 hr1 hl2;go_wp2_with fail;refine ht2.mono ?_;rintro e w3 ⟨v3,rfl,hS3,hR3,c3⟩;have hcv:=run_str8 hS3;obtain⟨a3,q3,rfl,-⟩:=hS3.shape;have hn4:=number_ok w3 p B n 4 r3 (by decide) (by decide) (show n<256^4 by omega) (by rw[hr2];exact hR3) (by rw[hr2];exact hl3);have H3:=zA c3 hS3;clear ht2 hS3 hR3 c3 hr2 hl3;go_wp2_with fail;refine hn4.mono ?_;rintro e w4 ⟨rfl,hR4,c4⟩;clear hn4 hcv;have c24:Chg [p] w w4:=((H1.out.2.1.toS.tr H2.out).tr H3.out.1).tr c4;have hsz1:=H1.out.2.1.size;have hsz4:=c24.size;have hA0l:=H1.out.1.lt;have hpA0:A0∉[p]:=by have h1:=H1.out.2.2;simp;omega
 have hb0:=((H1.out.1.chg H2.out hpA0).chg H3.out.1 hpA0).chg c4 hpA0;go_upto_region 3 with (fail);obtain⟨w5,hw5⟩:∃w5,w4.alloc (.cells #[.int .i64 n,.slice none 0 0] 103)=w5:=⟨_,rfl⟩;obtain⟨A1,hA1⟩:∃A1,w4.heap.size=A1:=⟨_,rfl⟩;have hb1:Blk w5 A1 #[.int .i64 n,.slice none 0 0] 103:=by rw[←hw5,←hA1];exact Blk.new _ _ _
 have k5:Chg [] w4 w5:=by rw[←hw5];exact (Chg.refl [] w4).alloc _
 rw[hw5,hA1];obtain⟨⟨y0,-⟩,-⟩:=hb1.c2;have hA01:A0<A1:=by have:=hb0.lt;omega
 have H5:=zE (hb0.chg0 k5) hb1 (c24.nil k5) (hR4.chg k5 (by simp)) hA01 (show w.heap.size≤A0 by have:=H1.out.2.2;omega);have t1:decide ((65535:Int)<(n:Int))=false:=by simp;omega
 have t1':decide (65535<n)=false:=by simp;omega
 have hnm:=hname w5;clear hw5 hA1 k5 hb0 hb1 hR4 c4 c24 hsz1 hsz4 hA0l hpA0 hA01 hname;go_wp2_with fail;refine hnm.mono ?_;rintro e w6 ⟨rfl,c6⟩;replace y0:=c6.cell_some y0 (by simp);have H6:=zH c6;clear hnm c6;go_wp2_with fail;refine (hcnt w6).mono ?_;rintro e w7 ⟨rfl,hw7⟩;obtain rfl:w6=w7:=hw7.symm;clear hcnt y0 t1 t1';go_wp2_with fail;go_loopg [10,34] m (fun k (v10 v34:Value) wr=>∃(j:Nat) (v:Value),v34=.int .i64 j∧Blk wr A1 #[.int .i64 n,v] 103∧OwnN w wr 3 1 v j (ints (x.blocks.take j))∧Hid (j+k=m∧RdR wr p B ((x.blocks.drop j).flatMap (fun k=>beB k 2)++rest)∧UsedR wr mu (U++x.blocks.take j)∧Blk wr A0 #[.int .i64 0,.slice none 0 0] 103∧Chg [p,mu] w wr));case atStart=>
  refine⟨0,.slice none 0 0,rfl,H5.out.2.1.chg0 H6.out,OwnN.nil _ _ _ _,Nat.zero_add _,?_,?_,H5.out.1.chg0 H6.out,(H5.out.2.2.1.nil H6.out).mono (fun t ht=>.inl (by simp at ht;simp[ht]))⟩;·rw[List.drop_zero,HH.out.2.2.2.2.2.2.2.2.1];exact H5.out.2.2.2.1.chg H6.out (by simp)
  ·rw[List.take_zero,List.append_nil];exact HH.out.1.chg (H5.out.2.2.1.nil H6.out) (by have:=HH.out.2.1;simp;exact fun e=>this e.symm)
 case round=>
  obtain⟨j,v,rfl,hbA,hO,HJ⟩:=hrel;obtain⟨av,qv,rfl,-⟩:=hO.shape;by_cases hj:j<m
  ·have t0:decide ((j:Int)<(m:Int))=true:=by simp;omega
   have t0':decide (j<m)=true:=by simp;omega
   obtain⟨hjk,hR,hU,hb0,cw⟩:=HJ.out;have hjl:j<x.blocks.length:=by rw[HH.out.2.2.2.2.2.2.2.2.2.2.1];exact hj
   obtain⟨kb,hkb⟩:∃kb,x.blocks[j]'hjl=kb:=⟨_,rfl⟩;have hdr:x.blocks.drop j=kb::x.blocks.drop (j+1):=by rw[List.drop_eq_getElem_cons hjl,hkb]
   have htk:x.blocks.take (j+1)=x.blocks.take j++[kb]:=by rw[List.take_succ_eq_append_getElem hjl,hkb]
   have hmem:kb∈x.blocks:=by rw[←hkb];exact List.getElem_mem hjl
   obtain⟨n1,n2,n3⟩:=lin9 (HH.out.2.2.2.2.1 kb hmem) HH.out.2.2.2.2.2.1;have hkU:kb∉U++x.blocks.take j:=fun hh=>by
    rcases List.mem_append.1 hh with h | h
    ·exact HH.out.2.2.2.2.2.2.2.1 kb hmem h
    ·have h1:=HH.out.2.2.2.2.2.2.1;have h2:x.blocks=x.blocks.take j++(kb::x.blocks.drop (j+1)):=by rw[←hdr,List.take_append_drop]
     rw[h2] at h1;exact (List.nodup_append.1 h1).2.2 kb h kb (by simp) rfl
   obtain⟨rr,hrr⟩:∃rr,(x.blocks.drop (j+1)).flatMap (fun k=>beB k 2)++rest=rr:=⟨_,rfl⟩;have hR':RdR wr p B (beB kb 2++rr):=by have h:=hR;rw[hdr,List.flatMap_cons,List.append_assoc,hrr] at h;exact h
   have hrl:(beB kb 2++rr).length≤1000000:=by
    have h1:=HH.out.2.2.2.2.2.2.2.2.2.2.2.2.1;rw[←HH.out.2.2.2.2.2.2.2.2.1] at h1;have h3:(x.blocks.flatMap (fun k=>beB k 2)++rest).length=j * 2+(beB kb 2++rr).length:=by
     rw[←hrr];simp only[List.length_append,bes_len,beB_length,List.length_drop];omega
    omega
   have hnb:=number_ok wr p B kb 2 rr (by decide) (by decide) (show kb<256^2 from n2) hR' hrl;have e2:wrap64 ((j:Int)+1)=((j+1:Nat):Int):=by unfold wrap64;omega
   have e2w:=wIq e2;have t3:decide ((all:Int)≤(kb:Int))=false:=by simp;omega
   have t3':decide (all≤kb)=false:=by simp;omega
   have hpw:p<w.heap.size:=HH.out.2.2.2.2.2.2.2.2.2.2.2.2.2.2;have hmw:mu<w.heap.size:=HH.out.1.lt;have hA0w:=H5.out.2.2.2.2.2;have hA01:=H5.out.2.2.2.2.1;have HQ:=zH (And.intro (lin5 hjk hj) (And.intro hU (And.intro hb0 (And.intro cw (And.intro htk (And.intro hrr (And.intro hkU (And.intro n1 (And.intro hpw (And.intro hmw (And.intro hA0w hA01)))))))))));have HO:=zH hO;clear hjk hR hU hb0 cw hdr htk hmem hkU hrr hR' hrl hkb hjl n1 n2 n3 hpw hmw hA0w hA01 hO;go_wp2_with fail;refine hnb.mono ?_;rintro e w8 ⟨rfl,hR8,c8⟩;clear hnb;obtain⟨hj1,hU,hb0,cw,htk,hrr,hkU,n1,hpw,hmw,hA0w,hA01⟩:=HQ.out;have hU8:=hU.chg c8 (by have:=HH.out.2.1;simp;exact fun e=>this e.symm);have hlk:=hU8.look kb hkU n1;obtain⟨w9,r9,hU9,c9⟩:=hU8.put kb n1;have hbA8:=hbA.chg c8 (by simp;omega);have hbA9:=hbA8.chg c9 (by simp;omega);have hO9:=(HO.out.chg c8 (fun t ht ht'=>by have:=HO.out.new t ht;simp at ht';omega)).chg c9 (fun t ht ht'=>by have:=HO.out.new t ht;simp at ht';omega);obtain⟨vr,hbr,hsr,hpr,hBr⟩:=hR8;obtain⟨⟨-,x1⟩,-⟩:=hbr.c2;obtain⟨⟨-,z1⟩,-,g1⟩:=hbA9.c2;have H9:=zE (show RdR w9 p B rr from RdR.chg ⟨vr,hbr,hsr,hpr,hBr⟩ c9 (fun t ht=>by have h1:=HH.out.2.1;have h2:=HH.out.2.2.1;simp at ht;subst ht;exact⟨fun e=>h1 e.symm,h2⟩)) hU9 ((hb0.chg c8 (by simp;omega)).chg c9 (by simp;omega)) ((cw.tr (c8.mono (fun t ht=>.inl (by simp at ht;simp[ht])))).tr (c9.mono (fun t ht=>.inl (by simp at ht;simp[ht])))) hO9 hbA9;have hown:=hO9.own;have hneA:=Go.Aq.Own.ne hown hbA9 (by decide);clear hj1 hU hb0 cw htk hrr hkU n1 hpw hmw hA0w hA01 hU8 c8 hU9 c9 hbA hbA8 hO9 hbr hsr hpr hBr;go_wp2_with (first
    | (at_builtin;refine wpList_push rfl _ _ 101 rfl sl_intF hown rfl rfl rfl (by omega) (by omega) ?_;intro g5 cp5 w10 ho10 c10 hg10 hcp10 hgl10;have hbA10:=hbA9.chg c10 hneA;obtain⟨⟨-,z1⟩,-,g1⟩:=hbA10.c2)
    | fail)
   have HP:=zC ho10 c10 hg10 hbA10;have HNE:=zH hneA;clear ho10 c10 hg10 hbA10 hown hbA9 hneA r9 hlk;go_roundg (gk - 1);case measure=>exact HQ.out.1.2
   case rel=>
    obtain⟨hj1,-,-,-,htk,hrr,-,-,hpw,hmw,hA0w,hA01⟩:=HQ.out;obtain⟨hR9,hU9,hb9,cw9,hO9,hbA9⟩:=H9.out;obtain⟨ho10,c10,hg10,hbA10⟩:=HP.out;have hT:∀t∈(Value.slice av j qv).ownBlock.toList,w.heap.size≤t:=fun t ht=>HO.out.new t ht
    have hs9:=cw9.size;have cS:Chg [A1] w10 (w10.setCell ⟨A1,1,none⟩ (.slice (some ⟨g5,0,none⟩) (j+1) cp5)):=(Chg.refl _ _).setCell (by simp) _;have hneO:=Go.Aq.Own.ne ho10 hbA10 (by decide);have hbS:=hbA10.set 1 (.slice (some ⟨g5,0,none⟩) (j+1) cp5);simp only[List.setIfInBounds_toArray,List.set_cons_zero,List.set_cons_succ] at hbS;have hBw:=HH.out.2.2.2.2.2.2.2.2.2.2.2.2.2.1;have hneA0:=Go.Aq.Own.ne hO9.own hb9 (by decide);refine⟨j+1,_,by simp,hbS,⟨?_,fun t ht=>?_⟩,hj1.1,?_,?_,?_,?_⟩
    ·rw[htk,show ints (x.blocks.take j++[kb])=ints (x.blocks.take j)++[.int .i64 (kb:Int)] by simp[ints]];exact ho10.chg cS (fun t ht ht'=>by simp at ht';subst ht';exact hneO ht)
    ·simp[Value.ownBlock] at ht;subst ht;rcases hg10 with h | h
     ·exact hT t h
     ·omega
    ·rw[hrr];exact (hR9.chg c10 (fun t ht=>⟨fun e=>by have:=hT t ht;omega,by have:=hT t ht;omega⟩)).chg cS (fun t ht=>by simp at ht;subst ht;exact⟨by omega,by omega⟩)
    ·rw[htk,←List.append_assoc];exact (hU9.chg c10 (fun hh=>by have:=hT mu hh;omega)).chg cS (by simp;omega)
    ·exact (hb9.chg c10 hneA0).chg cS (by simp;omega)
    ·exact ((cw9.trans c10 (fun t ht=>.inr (hT t ht))).trans cS (fun t ht=>.inr (by simp at ht;omega)))
  ·have t0:decide ((j:Int)<(m:Int))=false:=by simp;omega
   have t0':decide (j<m)=false:=by simp;omega
   obtain⟨hjk,hR,hU,hb0,cw⟩:=HJ.out;have hjm:j=m:=by omega
   have hml:=HH.out.2.2.2.2.2.2.2.2.2.2.1;have hdz:x.blocks.drop j=[]:=List.drop_eq_nil_of_le (by omega);have htz:x.blocks.take j=x.blocks:=List.take_of_length_le (by omega);rw[hdz] at hR;rw[htz] at hU hO;have hA01:=H5.out.2.2.2.2.1;obtain⟨⟨x0,x1⟩,-⟩:=hbA.c2;obtain⟨⟨z0,z1⟩,g0,g1⟩:=hb0.c2;have HE:=zF hR hU hO hb0 hbA cw hjm;clear hjk hR hU hO hb0 hbA cw hjm hml hdz htz hj;go_upto_region 15 with (fail);go_region;go_wp2_with fail;obtain⟨hR,hU,hO,hb0,hbA,cw,hjm⟩:=HE.out;have hbS:=(hb0.set 0 (.int .i64 (n:Int))).set 1 (.slice av j qv);simp only[List.setIfInBounds_toArray,List.set_cons_zero,List.set_cons_succ] at hbS;have ia:∀w,(isAgg 103).run Tryz.prog w=.ok true w:=fun w=>by kernel_rfl
   have isz:∀w,(sizeOf 103).run Tryz.prog w=.ok 2 w:=fun w=>by kernel_rfl
   refine bodyPost_ret (results_tc rfl _ _ rfl ia isz (hbS.drew.cell 0) (hbS.drew.cell 1)) rfl ?_;have hA0w:=H5.out.2.2.2.2.2;have cS:Chg [A0] wr (((wr.setCell ⟨A0,0,none⟩ (.int .i64 (n:Int))).setCell ⟨A0,1,none⟩ (.slice av j qv)).drew):=((((Chg.refl [A0] wr).setCell (by simp) _).setCell (by simp) _)).drew;have hn0:=HH.out.2.2.2.2.2.2.2.2.2.1;have hml:=HH.out.2.2.2.2.2.2.2.2.2.2.1;have hBw:=HH.out.2.2.2.2.2.2.2.2.2.2.2.2.2.1;have hpw:=HH.out.2.2.2.2.2.2.2.2.2.2.2.2.2.2;have hmw:=HH.out.1.lt;have hneA0:=Go.Aq.Own.ne hO.own hb0 (by decide);refine⟨.slice av j qv,by rw[hn0];rfl,?_,fun t ht=>hO.new t (eyes_own _ t ht),hR.chg cS (fun t ht=>by simp at ht;subst ht;exact⟨by omega,by omega⟩),hU.chg cS (by simp;omega),cw.trans cS (fun t ht=>.inr (by simp at ht;omega))⟩;rw[hml,←hjm];exact hO.own.sees.chg cS (fun t ht ht'=>by simp at ht';subst ht';exact hneA0 (eyes_own _ t ht))
end Go.Proofs.YtlbdklaggalgfaaGreatDoor
