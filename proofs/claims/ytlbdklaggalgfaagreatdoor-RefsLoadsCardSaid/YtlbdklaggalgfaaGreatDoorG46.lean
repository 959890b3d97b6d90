/- RWordG RqD -/
import Derived.Test.YtlbdklaggalgfaaGreatDoorG45
import Derived.Test.YtlbdklaggalgfaaGreatDoorG44
set_option linter.unusedSimpArgs false
set_option linter.unusedVariables false
set_option maxHeartbeats 8000000
namespace Go.Aq.Wd
end Go.Aq.Wd
namespace Go.Proofs.YtlbdklaggalgfaaGreatDoor
open Go.RowKit Go.Aq Go.Aq.Wd
set_option maxRecDepth 100000 in
theorem rwords_any (l:List UInt8) (w:World) (hl:l.length≤1000000000):
  Calls Tryz.prog 80 #[.string (str l)] w fun e w'=>∃v,e=.returned (.tuple #[v,.int .i64 (wordsL l).2.1,.int .i64 (wordsL l).2.2])∧Fresh w w' 9 1 v (wordsL l).1.length (Ss (wordsL l).1):=by
 have hsz:=str_size l;have hW:wordsL l=wordsF l.length (l.length+1) (l.drop 0) []:=rfl;have HW:=zH hW;clear hW;go_enter Tryz.func80,Tryz.ntmps80;go_wp2_with fail;go_loopg [5,6] (l.length+1) (fun k vl vq wr=>∃(q f:Nat) (acc:List (List UInt8)),vq=.int .i64 q∧q+k=l.length+1∧q≤l.length∧l.length<q+f∧acc.length≤50∧Fresh w wr 9 1 vl acc.length (Ss acc)∧Hid (wordsL l=wordsF l.length f (l.drop q) acc));case atStart=>exact⟨0,l.length+1,[],rfl,by omega,by omega,by omega,by simp,Fresh.nil w _ _,HW.out⟩
 case round=>
  obtain⟨q,f,acc,rfl,hqk,hql,hqf,ha50,hf,hw⟩:=hrel;obtain⟨GK,hGK⟩:∃G,G=gk:=⟨_,rfl⟩;obtain⟨wo,hwo⟩:∃wo:World,wo=wr:=⟨_,rfl⟩;rw[←hwo] at hf;rw[←hGK] at hqk;subst hwo;have hqb:(q:Int)≤1000000000:=by omega
  go_wp2_with fail;go_loopg [6] (l.length - q) (fun k vq wr=>∃(q1:Nat),vq=.int .i64 q1∧q1+k=l.length∧q≤q1∧q1≤l.length∧wr=wo∧q1+blanks (l.drop q1)=q+blanks (l.drop q));case atStart=>exact⟨q,rfl,by omega,by omega,hql,rfl,rfl⟩
  case round=>
   obtain⟨q1,rfl,hk1,hqq,hq1l,rfl,hbl⟩:=hrel;have hq1b:(q1:Int)≤1000000000:=by omega
   have hbs:=blanks_step (l.drop q1);by_cases h1:q1<l.length∧(l.drop q1).headD 0=32
   ·obtain⟨hlt,h32⟩:=h1;have t1:decide ((q1:Int)<(l.length:Int))=true:=by simp;omega
    have t1':decide (q1<l.length)=true:=by simp;omega
    have hhd:(l.drop q1).headD 0=l[q1]:=by rw[List.drop_eq_getElem_cons hlt];rfl
    rw[hhd] at h32;have ix:=fun w'=>idxS w' l q1 hlt
    rw[h32] at ix;have hx32:((32:UInt8).toNat:Int)=32:=rfl;rw[hx32] at ix;rw[if_pos ⟨by rw[hhd];exact h32,drop_ne l q1 hlt⟩,List.drop_drop] at hbs;have HB:=zB hbl hbs hk1;clear hbl hbs hk1 hhd h32 hx32;go_wp2_with fail;go_roundg (gk - 1);case measure=>have:=HB.out;omega
    case rel=>exact⟨q1+1,by go_num,by have:=HB.out;omega,by omega,by omega,rfl,by have:=HB.out;omega⟩
   ·have hb0:blanks (l.drop q1)=0:=by rw[hbs,if_neg (fun hh=>h1 ⟨by
     by_cases hlt:q1<l.length;·exact hlt
     ·exact absurd (List.drop_eq_nil_of_le (by omega)) hh.2,hh.1⟩)]
    obtain⟨f',rfl⟩:∃f',f=f'+1:=⟨f - 1,by omega⟩;have hdd:(l.drop q).drop (blanks (l.drop q))=l.drop q1:=by rw[List.drop_drop];congr 1;omega
    have hw:=hw.out;rw[wordsF] at hw;simp only[hdd] at hw;rw[List.length_drop] at hw;by_cases hend:l.drop q1=[]
    ·rw[if_pos hend] at hw;have hq1e:q1=l.length:=by have:=congrArg List.length hend;simp at this;omega
     subst hq1e;have t1:decide ((l.length:Int)<(l.length:Int))=false:=by simp
     have t2:((l.length:Int)==(l.length:Int))=true:=by simp
     have HWW:=zH hw;clear hw hend hbs hb0 hbl hdd h1;go_wp2_with fail
     go_ret3
     exact⟨_,by rw[HWW.out];rfl,by rw[HWW.out];exact hf⟩
    ·rw[if_neg hend] at hw;have hlt:q1<l.length:=by
      by_cases hlt:q1<l.length;·exact hlt
      ·exact absurd (List.drop_eq_nil_of_le (by omega)) hend
     have hhd:(l.drop q1).headD 0=l[q1]:=by rw[List.drop_eq_getElem_cons hlt];rfl
     have hn32:(l.drop q1).headD 0≠32:=fun e=>h1 ⟨hlt,e⟩
     have hx32:(l[q1]).toNat≠32:=fun e=>hn32 (by rw[hhd,←u8e _ _ e];rfl)
     have hx34:l[q1]=34↔(l[q1]).toNat=34:=⟨fun h=>by rw[h];rfl,fun h=>by rw[←u8e _ _ h];rfl⟩;have ix:=fun w'=>idxS w' l q1 hlt
     have t1:decide ((q1:Int)<(l.length:Int))=true:=by simp;omega
     have t1':decide (q1<l.length)=true:=by simp;omega
     have t2:((q1:Int)==(l.length:Int))=false:=by simp;omega
     have t3:(((l[q1]).toNat:Int)==32)=false:=by simp;omega
     have hwd:wordW (l.drop q1)=if (l[q1]).toNat=34 then
        (if (quotW (l.drop (q1+1))).2.2≠0 then ([],1+(quotW (l.drop (q1+1))).2.1,(quotW (l.drop (q1+1))).2.2)
         else if l.drop (q1+(1+(quotW (l.drop (q1+1))).2.1))≠[]∧(l.drop (q1+(1+(quotW (l.drop (q1+1))).2.1))).headD 0≠32 then ([],1+(quotW (l.drop (q1+1))).2.1,4)
         else ((quotW (l.drop (q1+1))).1,1+(quotW (l.drop (q1+1))).2.1,0))
       else ((l.drop q1).take (plainW (l.drop q1)).1,(plainW (l.drop q1)).1,if (plainW (l.drop q1)).2 then 0 else 4):=by
      unfold wordW;simp only[hhd,hx34,List.drop_drop]
     have hpos:=word_pos (l.drop q1) hend hn32;have hwle:=word_le (l.drop q1) hend;rw[List.length_drop] at hwle;obtain⟨ao,cap,hu5,hcap⟩:=hf.shape;subst hu5;clear h1 hhd hbs hb0 hbl hdd hx32 hx34;by_cases h50:acc.length=50
     ·rw[if_pos h50] at hw;have HWW:=zH hw;have t5:((acc.length:Int)==50)=true:=by simp;omega
      have hq1e:l.length - (l.length - q1)=q1:=by omega
      rw[hq1e] at HWW;clear hw hq1e hwd;generalize (l[q1]).toNat=x at *;go_wp2_with fail
      go_ret3
      exact⟨_,by rw[HWW.out];rfl,by rw[HWW.out];exact (Fresh.nil w _ _).to hf.chg⟩
     ·rw[if_neg h50] at hw;have t5:((acc.length:Int)==50)=false:=by simp;omega
      have h49:acc.length≤49:=by omega
      have hq1e:l.length - (l.length - q1)=q1:=by omega
      rw[hq1e,List.drop_drop] at hw;clear hend hn32 h50 hq1e;by_cases h34:(l[q1]).toNat=34
      ·rw[if_pos h34] at hwd;rw[h34] at ix;have hqa:=fun w'=>rquoted_any l q1 w' hlt hl
       have hqe:=quot_err _ (l.drop (q1+1)) (Nat.le_refl _);rw[List.length_drop] at hqe;have hqv:qtV l q1=wdV (quotW (l.drop (q1+1))).1 (q1+1+(quotW (l.drop (q1+1))).2.1) (quotW (l.drop (q1+1))).2.2:=rfl;rw[hqv] at hqa;clear hqv h34 t3;generalize quotW (l.drop (q1+1))=Q at *;obtain⟨qt,qm,qe⟩:=Q;simp only at hwd hqa hqe;have e3:q1+(1+qm)=q1+1+qm:=by omega
       rw[e3] at hwd;obtain⟨q2,hq2⟩:∃q2,q1+1+qm=q2:=⟨_,rfl⟩;rw[hq2] at hqa hwd;have hq2b:(q2:Int)≤1000000000:=by omega
       have hq2l:q2≤l.length:=by omega
       have HQ:=zD hqk hk1 hqf hGK hq2;by_cases hqe0:qe=0
       ·subst hqe0;rw[if_neg (by simp)] at hwd;have hqa:∀w',Calls Tryz.prog 136 #[.string (str l),.int .i64 q1] w' fun e w''=>e=.returned (.tuple #[.string (str qt),.int .i64 q2,.int .i64 0])∧Chg [] w' w'':=hqa
        by_cases hbadw:l.drop q2≠[]∧(l.drop q2).headD 0≠32
        ·rw[if_pos hbadw] at hwd;rw[hwd] at hw;simp only at hw;rw[if_pos (by decide)] at hw;have e4:q1+(1+qm)=q2:=by omega
         rw[e4] at hw;have HWW:=zH hw;have hlt2:q2<l.length:=by
          by_cases hlt2:q2<l.length;·exact hlt2
          ·exact absurd (List.drop_eq_nil_of_le (by omega)) hbadw.1
         have hhd2:(l.drop q2).headD 0=l[q2]:=by rw[List.drop_eq_getElem_cons hlt2];rfl
         have hx2:(l[q2]).toNat≠32:=fun e=>hbadw.2 (by rw[hhd2,←u8e _ _ e];rfl)
         have ix2:=fun w'=>idxS w' l q2 hlt2
         have u1:decide ((q2:Int)<(l.length:Int))=true:=by simp;omega
         have u1':decide (q2<l.length)=true:=by simp;omega
         have u2:(((l[q2]).toNat:Int) != 32)=true:=jN (by omega);clear hw hwd hhd2 hx2 hbadw hpos hwle hqe hk1 hqk hqf hGK hq2 e3 e4;generalize (l[q2]).toNat=x2 at *;go_wp2_with fail;refine (hqa _).mono ?_;rintro e w3 ⟨rfl,c3⟩;clear hqa;go_wp2_with fail
         go_ret3
         exact⟨_,by rw[HWW.out];rfl,by rw[HWW.out];exact (Fresh.nil w _ _).to (hf.chg.nil c3)⟩
        ·rw[if_neg hbadw] at hwd;rw[hwd] at hw hpos;simp only at hw hpos;rw[if_neg (by simp)] at hw;have e4:q1+(1+qm)=q2:=by omega
         rw[e4] at hw;have HWW:=zH hw;have hh:(decide ((q2:Int)<(l.length:Int))=false∧decide (q2<l.length)=false)∨∃hlt2:q2<l.length,decide ((q2:Int)<(l.length:Int))=true∧decide (q2<l.length)=true∧(l[q2]).toNat=32:=by
          by_cases hlt2:q2<l.length
          ·right;refine⟨hlt2,by simp;omega,by simp;omega,?_⟩;have hhd2:(l.drop q2).headD 0=l[q2]:=by rw[List.drop_eq_getElem_cons hlt2];rfl
           rw[hhd2] at hbadw;by_cases h:l[q2]=32;·rw[h];rfl
           ·exact absurd ⟨drop_ne l q2 hlt2,h⟩ hbadw
          ·left;constructor <;> simp <;> omega
         have HP:=zH (show q1+1≤q2 by omega);clear hw hwd hbadw hpos hwle hqe hk1 hqk hqf hGK hq2 e3 e4;rcases hh with ⟨u1,u1'⟩ | ⟨hlt2,u1,u1',hx2⟩
         ·go_wp2_with fail;refine (hqa _).mono ?_;rintro e w3 ⟨rfl,c3⟩;have hf3:=hf.to c3;clear hqa;go_wp2_with (at_builtin;refine wpList_appF (w0:=w) rfl _ _ 152 rfl sl_str (by exact hf3.to ((Chg.refl [] w3).alloc (.cells #[.string (str qt)] 9))) rfl (Sees.row (cs:=#[.string (str qt)]) (by exact Blk.new w3 _ 9) (m:=1) rfl) rfl (by simp[Value.oneCell']) (by omega) (by omega) ?_;intro v4 w4 hF4 c4);go_roundg (GK - (q2 - q));case measure=>have:=HQ.out;have:=HP.out;omega
          case rel=>exact⟨q2,f',acc++[qt],rfl,by have:=HQ.out;have:=HP.out;omega,hq2l,by have:=HQ.out;have:=HP.out;omega,by simp;omega,by rw[Ss_append];simpa[Ss] using hF4,HWW.out⟩
         ·have ix2:=fun w'=>idxS w' l q2 hlt2
          rw[hx2] at ix2;clear hx2;go_wp2_with fail;refine (hqa _).mono ?_;rintro e w3 ⟨rfl,c3⟩;have hf3:=hf.to c3;clear hqa;go_wp2_with (at_builtin;refine wpList_appF (w0:=w) rfl _ _ 152 rfl sl_str (by exact hf3.to ((Chg.refl [] w3).alloc (.cells #[.string (str qt)] 9))) rfl (Sees.row (cs:=#[.string (str qt)]) (by exact Blk.new w3 _ 9) (m:=1) rfl) rfl (by simp[Value.oneCell']) (by omega) (by omega) ?_;intro v4 w4 hF4 c4);go_roundg (GK - (q2 - q));case measure=>have:=HQ.out;have:=HP.out;omega
          case rel=>exact⟨q2,f',acc++[qt],rfl,by have:=HQ.out;have:=HP.out;omega,hq2l,by have:=HQ.out;have:=HP.out;omega,by simp;omega,by rw[Ss_append];simpa[Ss] using hF4,HWW.out⟩
       ·rw[if_pos hqe0] at hwd;rw[hwd] at hw;simp only at hw;rw[if_pos hqe0] at hw;have e4:q1+(1+qm)=q2:=by omega
        rw[e4] at hw;have HWW:=zH hw;have hv:wdV qt q2 qe=.tuple #[.string (str []),.int .i64 (q2:Nat),.int .i64 (qe:Nat)]:=by simp only[wdV,if_neg hqe0]
        rw[hv] at hqa;have u1:((qe:Int)==0)=false:=jB (by omega);have u2:((qe:Int) != 0)=true:=jN (by omega);clear hw hwd hpos hwle hqe hk1 hqk hqf hGK hq2 e3 e4 hqe0 hv;go_wp2_with fail;refine (hqa _).mono ?_;rintro e w3 ⟨rfl,c3⟩;clear hqa;go_wp2_with fail
        go_ret3
        exact⟨_,by rw[HWW.out];rfl,by rw[HWW.out];exact (Fresh.nil w _ _).to (hf.chg.nil c3)⟩
      ·rw[if_neg h34] at hwd;have t34:(((l[q1]).toNat:Int)==34)=false:=jB (by omega);have hpa:=fun w'=>rplain_any l q1 w' (by omega) hl
       have hpv:plV l q1=wdV ((l.drop q1).take (plainW (l.drop q1)).1) (q1+(plainW (l.drop q1)).1) (if (plainW (l.drop q1)).2 then 0 else 4):=rfl;rw[hpv] at hpa;have hple:=plain_le _ (l.drop q1) (Nat.le_refl _);rw[List.length_drop] at hple;clear hpv h34;generalize (l[q1]).toNat=x at *;generalize hPT:(l.drop q1).take (plainW (l.drop q1)).1=pt at *;clear hPT;generalize plainW (l.drop q1)=P at *;obtain⟨pm,pb⟩:=P;simp only at hwd hpa hple;obtain⟨q2,hq2⟩:∃q2,q1+pm=q2:=⟨_,rfl⟩;rw[hq2] at hpa;have hq2b:(q2:Int)≤1000000000:=by omega
       have hq2l:q2≤l.length:=by omega
       rw[hwd] at hw hpos;simp only at hw hpos;rw[hq2] at hw;have HQ:=zD hqk hk1 hqf hGK hq2;cases pb with
       | true=>
        have hpz:∀w',Calls Tryz.prog 137 #[.string (str l),.int .i64 q1] w' fun e w''=>e=.returned (.tuple #[.string (str pt),.int .i64 q2,.int .i64 0])∧w''=w':=hpa
        have hp1:=hpos rfl;rw[if_neg (by simp)] at hw;have HWW:=zH hw;have HP:=zH (show q1+1≤q2 by omega);clear hw hwd hpos hwle hk1 hqk hqf hGK hq2 hp1 hple hpa;go_wp2_with fail;refine (hpz _).mono ?_;rintro e w3 ⟨rfl,rfl⟩;clear hpz;go_wp2_with (at_builtin;refine wpList_appF (w0:=w) rfl _ _ 152 rfl sl_str (by exact hf.to ((Chg.refl [] w3).alloc (.cells #[.string (str pt)] 9))) rfl (Sees.row (cs:=#[.string (str pt)]) (by exact Blk.new w3 _ 9) (m:=1) rfl) rfl (by simp[Value.oneCell']) (by omega) (by omega) ?_;intro v4 w4 hF4 c4);go_roundg (GK - (q2 - q));case measure=>have:=HQ.out;have:=HP.out;omega
        case rel=>exact⟨q2,f',acc++[pt],rfl,by have:=HQ.out;have:=HP.out;omega,hq2l,by have:=HQ.out;have:=HP.out;omega,by simp;omega,by rw[Ss_append];simpa[Ss] using hF4,HWW.out⟩
       | false=>
        have hpz:∀w',Calls Tryz.prog 137 #[.string (str l),.int .i64 q1] w' fun e w''=>e=.returned (.tuple #[.string (str []),.int .i64 q2,.int .i64 4])∧w''=w':=hpa
        rw[if_pos (by simp)] at hw;have HWW:=zH hw;clear hw hwd hpos hwle hk1 hqk hqf hGK hq2 hple hpa;go_wp2_with fail;refine (hpz _).mono ?_;rintro e w3 ⟨rfl,rfl⟩;clear hpz;go_wp2_with fail
        go_ret3
        exact⟨_,by rw[HWW.out];rfl,by rw[HWW.out];exact (Fresh.nil w _ _).to hf.chg⟩
def ends (P:List (List UInt8)):List UInt8:=P.flatMap (·++[10])
theorem ends_snoc (P:List (List UInt8)) (q:List UInt8):ends (P++[q])=ends P++(q++[10]):=by simp[ends]
theorem lines_split:∀(P:List (List UInt8)) (q:List UInt8),(∀x∈P,(10:UInt8)∉x)→(10:UInt8)∉q→linesL (ends P++q)=P.map (·++[10])++(if q=[] then [] else [q])
 | [],q,_,hq=>by
  simp only[ends,List.flatMap_nil,List.nil_append,List.map_nil];by_cases h:q=[];·subst h;simp[linesL_nil]
  ·rw[if_neg h,linesL_cons h];have h1:headLn q=q:=by unfold headLn;rw[if_neg hq]
   have h2:restLn q=[]:=by unfold restLn;rw[if_neg hq]
   rw[h1,h2,linesL_nil]
 | x::P,q,hP,hq=>by
  have ih:=lines_split P q (fun y hy=>hP y (by simp[hy])) hq;have e:ends (x::P)++q=x++10::(ends P++q):=by simp[ends]
  rw[e,lines_app (hP x (by simp)),ih];simp
def readW:List (List UInt8)→Option (List RefD)
 | []=>some []
 | x::t=>match lineW x with
  | none=>none
  | some r=>(readW t).map (r::·)
theorem lineD_end (x:List UInt8):lineD (x++[10])=lineW x:=by rw[lineD_W,trimN_end]
theorem readW_eq:∀P:List (List UInt8),readL (P.map (·++[10]))=readW P
 | []=>rfl
 | x::t=>by
  simp only[List.map_cons,readL,readW,lineD_end,readW_eq t];cases lineW x <;> rfl
theorem readW_snoc (x:List UInt8) (a:List (List UInt8)) (l:List RefD) (h:readW a=some l):readW (a++[x])=(lineW x).map fun r=>l++[r]:=by
 rw[←readW_eq,List.map_append,List.map_singleton,readL_snoc (x++[10]) _ l (by rw[readW_eq];exact h),lineD_end]
theorem readW_len {a:List (List UInt8)} {l:List RefD} (h:readW a=some l):l.length=a.length:=by
 have:=readL_len (a.map (·++[10])) l (by rw[readW_eq];exact h);simpa using this
structure Pieces (b:List UInt8) (P:List (List UInt8)) (q:List UInt8):Prop where
 eq:b=ends P++q
 no:∀x∈P,(10:UInt8)∉x
 last:(10:UInt8)∉q
theorem Pieces.lines {b:List UInt8} {P:List (List UInt8)} {q:List UInt8} (h:Pieces b P q):linesL b=P.map (·++[10])++(if q=[] then [] else [q]):=by
 rw[h.eq];exact lines_split P q h.no h.last
theorem dec_bad {b:List UInt8} {P:List (List UInt8)} {q:List UInt8} (h:Pieces b P q) {i:Nat} (hi:i<P.length) (hx:lineW P[i]=none):decL b=([],4):=by
 have e:P=P.take i++P[i]::P.drop (i+1):=by rw[List.getElem_cons_drop,List.take_append_drop]
 unfold decL;rw[h.lines];have hr:readL (P.map (·++[10])++(if q=[] then [] else [q]))=none:=by
  rw[e,List.map_append,List.map_cons,List.append_assoc,List.cons_append];exact readL_bad (by rw[lineD_end];exact hx) _ _
 rw[hr]
theorem dec_long {b:List UInt8} {P:List (List UInt8)} {q:List UInt8} (h:Pieces b P q) (hi:100<P.length):decL b=([],4):=by
 unfold decL;cases hr:readL (linesL b) with
 | none=>rfl
 | some l=>
  have h1:=readL_len _ _ hr;have h2:P.length≤(linesL b).length:=by rw[h.lines];simp
  simp only;rw[if_neg];intro he;have:=mayL_len (enc_mayD he);omega
where
 enc_mayD {l:List RefD} {b:List UInt8} (h:encodeL l=(b,0)):mayL l=true:=by
  unfold encodeL at h;split at h;·assumption
  ·cases h
theorem enc_end {m:List RefD} {b:List UInt8} (h:encodeL m=(b,0)) (hb:b≠[]):b.getLast?=some 10:=by
 have e:b=m.flatMap lineR:=by
  unfold encodeL at h;split at h;·injection h with h1 h2;exact h1.symm
  ·cases h
 rcases List.eq_nil_or_concat m with rfl | ⟨m',r,rfl⟩
 ·exact absurd e hb
 ·have e2:[r].flatMap lineR=(kindL r.tag++[32]++(quoteL r.name).1++[32]++r.key)++[10]:=by simp[lineR]
  rw[e,List.concat_eq_append,List.flatMap_append,e2,←List.append_assoc];exact List.getLast?_concat
theorem dec_all {b:List UInt8} {P:List (List UInt8)} {q:List UInt8} (h:Pieces b P q) {m:List RefD} (hm:readW P=some m):decL b=if encodeL m=(b,0) then (m,0) else ([],4):=by
 by_cases hq:q=[]
 ·subst hq;unfold decL;rw[h.lines,if_pos rfl,List.append_nil,readW_eq,hm]
 ·have hl:b.getLast?≠some 10:=by
   rw[h.eq,List.getLast?_append];intro e;cases hg:q.getLast? with
   | none=>exact hq (List.getLast?_eq_none_iff.1 hg)
   | some c=>
    rw[hg] at e;simp at e;subst e;exact h.last (List.mem_of_getLast? hg)
  have hb:b≠[]:=by rw[h.eq];simp[hq]
  rw[if_neg (fun e=>hl (enc_end e hb))];unfold decL;cases hr:readL (linesL b) with
  | none=>rfl
  | some l=>
   simp only;rw[if_neg (fun e=>hl (enc_end e hb))]
def SplitI (l:List UInt8) (n i f:Nat) (o:List (List UInt8)):Prop:=
 ∃P q,(∀x∈P,(10:UInt8)∉x)∧(10:UInt8)∉q∧((i≤n∧o=P∧l.take i=ends P++q∧f+q.length=i)∨(i=n+1∧o=P++[q]∧l=ends P++q))
theorem split_cut {l:List UInt8} {P:List (List UInt8)} {q:List UInt8} {i f:Nat} (hi:i≤l.length) (h:l.take i=ends P++q) (hf:f+q.length=i):(l.take i).drop f=q:=by
 have h1:=congrArg List.length h;rw[List.length_take,List.length_append] at h1;have h2:f=(ends P).length:=by omega
 rw[h,h2,List.drop_left]
set_option maxRecDepth 100000 in
theorem split_any (l:List UInt8) (w:World) (hl:l.length≤1000000):
  Calls Tryz.prog 79 #[.string (str l),.int .u8 10] w fun e w'=>∃v P q,e=.returned v∧Pieces l P q∧Fresh w w' 9 1 v (P.length+1) (Ss (P++[q])):=by
 obtain⟨n,HN⟩:∃n,Hid (l.length=n):=⟨_,rfl⟩;have hsz:(str l).size=n:=by rw[str_size];exact HN.out
 rw[HN.out] at hl;go_enter Tryz.func79,Tryz.ntmps79;go_wp2_with fail;go_loopg [5,6,7] (n+1) (fun gk (v5 v6 v7:Value) wr=>∃(i f m:Nat) (o:List (List UInt8)) (a6:Option Addr) (c6:Nat),v5=.slice a6 m c6∧v6=.int .i64 (f:Int)∧v7=.int .i64 (i:Int)∧i+gk=n+1∧Hid (o.length=m∧m≤i)∧Hid (SplitI l n i f o)∧Hid (Fresh w wr 9 1 (.slice a6 m c6) m (Ss o)));case atStart=>exact⟨0,0,0,[],none,0,rfl,rfl,rfl,by omega,⟨rfl,Nat.le_refl _⟩,⟨[],[],by simp,by simp,.inl ⟨Nat.zero_le _,rfl,rfl,rfl⟩⟩,Fresh.nil _ _ _⟩
 case round=>
  obtain⟨i,f,m,o,a6,c6,rfl,rfl,rfl,hik,HO,HS,HF⟩:=hrel;have hin0:i≤n+1:=by omega
  by_cases hin:i≤n
  ·have t1:decide ((i:Int)≤(n:Int))=true:=decide_eq_true (by omega);have t1':decide (i≤n)=true:=decide_eq_true hin;obtain⟨P,q,hP,hq,h⟩:=HS.out;rcases h with ⟨-,ho,h1,h2⟩ | ⟨h0,-⟩
   rotate_left
   ·omega
   have hcut:=split_cut (by rw[HN.out];exact hin) h1 h2;have hex:=str_extract l f i;rw[hcut] at hex;have hfi:f≤i:=by omega
   have n1:(f:Int)≤(i:Int):=by omega
   have n2:(i:Int)≤(n:Int):=by omega
   have n3:(i:Int)≤1000000:=by omega
   by_cases hie:i=n
   ·subst hie;have e1:((i:Int)==(i:Int))=true:=by simp
    have HQ:Hid (SplitI l i (i+1) (i+1) (o++[q])):=⟨P,q,hP,hq,.inr ⟨rfl,by rw[ho],by rw[←h1,←HN.out,List.take_length]⟩⟩;have hmi:m≤i:=HO.out.2;clear hP hq ho h1 h2 hcut hin0;go_wp2_with (at_builtin;refine wpList_appF (w0:=w) rfl _ _ 152 rfl sl_str (by exact HF.out.to ((Chg.refl [] wr).alloc (.cells #[.string (str q)] 9))) rfl (Sees.row (cs:=#[.string (str q)]) (by exact Blk.new wr _ 9) (m:=1) rfl) rfl (by simp[Value.oneCell']) (by omega) (by omega) ?_;intro v4 w4 hF4 c4;obtain⟨a4,p4,rfl,-⟩:=hF4.shape;have HF4:=zH hF4;clear hF4 c4);go_roundg (gk - 1);case measure=>omega
    case rel=>exact⟨i+1,i+1,m+1,o++[q],a4,p4,rfl,by go_num,by go_num,by omega,⟨by simp[HO.out.1],by omega⟩,HQ,by rw[Ss_append];exact HF4.out⟩
   ·have hlt:i<n:=by omega
    have hil:i<l.length:=by rw[HN.out];exact hlt
    have e1:((i:Int)==(n:Int))=false:=by simp;omega
    have htk:=List.take_succ_eq_append_getElem hil;have ix:=fun w'=>idxS w' l i hil
    by_cases hc:l[i]=10
    ·have e2:((l[i].toNat:Int)==10)=true:=by rw[hc];rfl
     have HQ:Hid (SplitI l n (i+1) (i+1) (o++[q])):=by
      refine⟨P++[q],[],?_,by simp,.inl ⟨by omega,by rw[ho],?_,by simp⟩⟩
      ·intro x hx;rcases List.mem_append.1 hx with hx | hx
       ·exact hP x hx
       ·rw[List.mem_singleton.1 hx];exact hq
      ·rw[htk,hc,h1,ends_snoc];simp
     have hmi:m≤i:=HO.out.2;clear hP hq ho h1 h2 hcut htk hc hie hin0;generalize l[i].toNat=cc at *;go_wp2_with (at_builtin;refine wpList_appF (w0:=w) rfl _ _ 152 rfl sl_str (by exact HF.out.to ((Chg.refl [] wr).alloc (.cells #[.string (str q)] 9))) rfl (Sees.row (cs:=#[.string (str q)]) (by exact Blk.new wr _ 9) (m:=1) rfl) rfl (by simp[Value.oneCell']) (by omega) (by omega) ?_;intro v4 w4 hF4 c4;obtain⟨a4,p4,rfl,-⟩:=hF4.shape;have HF4:=zH hF4;clear hF4 c4);go_roundg (gk - 1);case measure=>omega
     case rel=>exact⟨i+1,i+1,m+1,o++[q],a4,p4,rfl,by go_num,by go_num,by omega,⟨by simp[HO.out.1],by omega⟩,HQ,by rw[Ss_append];exact HF4.out⟩
    ·have e2:((l[i].toNat:Int)==10)=false:=by
      rw[beq_eq_false_iff_ne];intro e;exact hc (UInt8.toNat_inj.1 (by show l[i].toNat=10;omega))
     have HQ:Hid (SplitI l n (i+1) f o):=by
      refine⟨P,q++[l[i]],hP,?_,.inl ⟨by omega,ho,by rw[htk,h1];simp,by simp;omega⟩⟩;intro hm;rcases List.mem_append.1 hm with hm | hm
      ·exact hq hm
      ·exact hc (List.mem_singleton.1 hm).symm
     have hmi:m≤i:=HO.out.2;clear hP hq ho h1 h2 hcut htk hc hie hin0 hex;generalize l[i].toNat=cc at *;go_wp2_with fail;go_roundg (gk - 1);case measure=>omega
     case rel=>exact⟨i+1,f,m,o,a6,c6,rfl,rfl,by go_num,by omega,⟨HO.out.1,by omega⟩,HQ,HF.out⟩
  ·have t1:decide ((i:Int)≤(n:Int))=false:=decide_eq_false (by omega);have t1':decide (i≤n)=false:=decide_eq_false hin;obtain⟨P,q,hP,hq,h⟩:=HS.out;rcases h with ⟨h0,-⟩ | ⟨h0,ho,h1⟩
   ·omega
   have hm:m=P.length+1:=by rw[←HO.out.1,ho];simp
   have HZ:Hid (Pieces l P q∧Fresh w wr 9 1 (.slice a6 m c6) (P.length+1) (Ss (P++[q]))):=⟨⟨h1,hP,hq⟩,by rw[←hm,←ho];exact HF.out⟩;clear hP hq h0 ho h1 hm;go_wp2_with fail;go_ret;exact⟨_,P,q,rfl,HZ.out.1,HZ.out.2⟩
end Go.Proofs.YtlbdklaggalgfaaGreatDoor
