/- FzJ FzK FgA ObB -/
import Derived.Test.YtlidiclfpklliaaGreatDoorG25
set_option linter.unusedSimpArgs false
set_option linter.unusedVariables false
set_option maxHeartbeats 4000000
namespace Go.Proofs.YtlidiclfpklliaaGreatDoor
open Go.RowKit Go.Aq Go.Aq.Fy Go.Maps
set_option maxRecDepth 100000 in
theorem fwrite_ok (w:World) (S:List Nat) (f mt bf l p:Nat) (D:DiskD) (L:LogD) (hF:Blk w f #[.pointer (some ⟨p,0,none⟩),.pointer (some ⟨l,0,none⟩),.int .i64 mt,.map (some bf)] 113) (hf:f∉S∧f≠l) (h:DiskR w S p D) (hL:LogR w l p L) (hl:l∉S) (hd:D.down=false)
  (B:Puts) (hp:D.pend.length+B.length≤500000) (hk:∀q∈B,q.1<D.n) (v:Value) (xs:List Value) (hs:Sees w 2 v B.length xs) (hx:PendR w S B xs) (ho:Disj (eyes v) S)
  (h0:0<L.ring) (hr:L.ring+4≤D.n) (hpos:L.pos<65536) (hq:L.seq<281474976710655)
  (P:Puts) (n:Nat) (hn:P.length=n) (v2:Value) (xs2:List Value) (hv2:Sees w 2 v2 n xs2) (hx2:PendR w S P xs2) (ho2:Disj (eyes v2) S) (hb:n≤10000) (hh:∀q∈P,atHome D L q.1=true) (hnd:(P.map (·.1)).Nodup) (hneed:need n≤L.ring):
  Calls Tryz.prog 66 #[.pointer (some ⟨f,0,none⟩),v,v2] w (CommitEnd w S l p (runP D ((if B=[] then [] else [B])++commitP L P)) L (if P=[] then L else nextL L n)):=by
 obtain⟨m,hm⟩:∃m,B.length=m:=⟨_,rfl⟩
 obtain⟨RR,hRR⟩:∃RR,runP D ((if B=[] then [] else [B])++commitP L P)=RR:=⟨_,rfl⟩
 obtain⟨LN,hLN⟩:∃LN,(if P=[] then L else nextL L n)=LN:=⟨_,rfl⟩
 rw[hRR,hLN]
 have HR2:=zA hRR hLN
 clear hRR hLN
 rw[hm] at hs hp
 obtain⟨ao,cap,rfl,-⟩:=hs.shape
 obtain⟨ao2,cap2,rfl,-⟩:=hv2.shape
 have hfl:=hF.lt
 have hll:=Blk.lt hL
 obtain⟨⟨c0,c1,-,-⟩,-⟩:=Blk.c4b hF
 have HM:=zH hm
 have HS:=zB hs hx ho
 have HK:=zH hk
 have HB:=zH hp
 have HH:=zA h hd
 have HL:=zH (And.intro hL (And.intro hl (And.intro h0 (And.intro hr (And.intro hpos (And.intro hq (And.intro hn (And.intro hv2 (And.intro hx2 (And.intro ho2 (And.intro hb (And.intro hh (And.intro hnd (And.intro hneed (And.intro hf (And.intro hfl (And.intro hll hF)))))))))))))))))
 clear hm hs hx ho hk hp h hd hL hl h0 hr hpos hq hn hv2 hx2 ho2 hb hh hnd hneed hf hfl hll hF
 have hoff:∀(wr:World) (S':List Nat),Upd S S' w wr→f∉S'∧l∉S':=fun wr S' hU=>by
  refine⟨fun hh=>?_,fun hh=>?_⟩
  ·rcases hU.new f hh with h1 | h1
   ·exact HL.out.2.2.2.2.2.2.2.2.2.2.2.2.2.2.1.1 h1
   ·have:=HL.out.2.2.2.2.2.2.2.2.2.2.2.2.2.2.2.1;omega
  ·rcases hU.new l hh with h1 | h1
   ·exact HL.out.2.1 h1
   ·have:=HL.out.2.2.2.2.2.2.2.2.2.2.2.2.2.2.2.2.1;omega
 have HO:=zH hoff
 clear hoff
 have fin:∀(wr:World) (S':List Nat) (Di:DiskD),DiskR wr S' p Di→Upd S S' w wr→Di.down=false→Di.n=D.n→Di.pend.length≤600000→RR=runP Di (commitP L P)→
   Calls Tryz.prog 134 #[.pointer (some ⟨l,0,none⟩),.slice ao2 n cap2] wr (fun e w'=>CommitEnd w S l p RR L LN e w'):=by
  intro wr S' Di hR hU hdn hDn hpn he
  obtain⟨hL,hl,h0,hr,hpos,hq,hn,hv2,hx2,ho2,hb,hh,hnd,hneed,-,-,-,-⟩:=HL.out
  have hc:=commit_ok wr S' l p Di L hR (hL.chg hU.chg hl) (HO.out _ _ hU).2 hdn hpn h0 (by rw[hDn];exact hr) hpos hq P n hn (.slice ao2 n cap2) xs2 (hv2.chg hU.chg ho2) (hx2.upd hU) (ho2.upd hU (hv2.lt (by decide))) hb (fun q hq=>by have:=hh q hq;unfold atHome at this ⊢;rw[hDn];exact this) hnd hneed
  rw[HR2.out.2] at hc
  rw[he]
  refine hc.mono ?_
  rintro e w' ⟨rfl,S2,k1,k2,k3,k4⟩
  refine⟨rfl,S2,k1,k2,k3,?_⟩
  refine Upd.trans ⟨hU.chg.mono (fun k hk=>.inl (by simp[hk])),fun k hk=>?_⟩ k4
  rcases List.mem_cons.1 hk with rfl | hk
  ·simp
  ·rcases hU.new k hk with h1 | h1
   ·simp[h1]
   ·exact .inr h1
 have FIN:=zH fin
 clear fin
 go_enter Tryz.func66,Tryz.ntmps66
 go_wp2_with fail
 go_loopg [8,9,13] m (fun k (v8 v9 v13:Value) wr=>∃(i:Nat) (S':List Nat) (Di:DiskD),v13=.int .i64 (i:Int)∧wr.cell? ⟨f,0,none⟩=some (.pointer (some ⟨p,0,none⟩))∧wr.cell? ⟨f,1,none⟩=some (.pointer (some ⟨l,0,none⟩))∧Hid (i≤m∧k=m - i∧DiskR wr S' p Di∧Upd S S' w wr∧Di.down=false∧Di.n=D.n∧Di.pend.length≤D.pend.length+i∧eachD D B=eachD Di (B.drop i)∧(i=0→Di=D)))
 case atStart=>exact⟨0,S,D,rfl,c0,c1,Nat.zero_le _,(Nat.sub_zero _).symm,HH.out.1,Upd.refl _ _,HH.out.2,rfl,Nat.le_refl _,rfl,fun _=>rfl⟩
 case round=>
  clear c0 c1
  obtain⟨i,S',Di,rfl,c0,c1,HI⟩:=hrel
  by_cases him:i<m
  ·obtain⟨hi,hk1,hR,hU,hI1,hI2,hI3,hI4,-⟩:=HI.out
   have t1:decide ((i:Int)<(m:Int))=true:=decide_eq_true (by omega)
   have t1':decide (i<m)=true:=decide_eq_true him
   have him':i<B.length:=by rw[HM.out];exact him
   have hpd:PendR wr S' B xs:=HS.out.2.1.upd hU
   have hsw:Sees wr 2 (.slice ao m cap) m xs:=HS.out.1.chg hU.chg HS.out.2.2
   obtain⟨g',off',cap',a5,q5,e1,hmc,x0,x1,hsv⟩:=hpd.cells hsw HM.out him'
   injection e1 with e1 _ e2
   subst e1 e2
   have hkn:(B[i]).1<Di.n:=by rw[hI2];exact HK.out _ (List.getElem_mem him')
   have hdrop:B.drop i=B[i]::B.drop (i+1):=List.drop_eq_getElem_cons him'
   generalize B[i]=pt at *
   obtain⟨pk,pb⟩:=pt
   simp only at x0 hsv hkn
   obtain⟨wA,hwA⟩:∃wA,wr.alloc (.cells #[.int .i64 pk,.slice a5 256 q5] 199)=wA:=⟨_,rfl⟩
   obtain⟨K,hK⟩:∃K,wr.heap.size=K:=⟨_,rfl⟩
   have hca:Chg [] wr wA:=by rw[←hwA];exact (Chg.refl [] wr).alloc _
   have hbx:Blk wA K #[.int .i64 pk,.slice a5 256 q5] 199:=by rw[←hwA,←hK];exact Blk.new _ _ _
   obtain⟨⟨z0,z1⟩,-⟩:=hbx.c2
   have hwr:=fun w' (c:Chg [] wA w')=>write_ok w' S' p Di pk pb (.slice a5 256 q5) ((hR.chg hca).chg c) hI1 hkn (by have:=HB.out;omega) ((hsv.chg hca (by simp)).chg c (by simp))
   have hwd:=writeD_put hI1 hkn hsv.len
   have hstep:eachD Di (B.drop i)=if (putD Di pk pb).2=0 then eachD (putD Di pk pb).1 (B.drop (i+1)) else putD Di pk pb:=by
    rw[hdrop];simp only[eachD,hwd]
   have hcode:=putD_code Di pk pb
   have hpn:=putD_n Di pk pb
   have hpp:=putD_pend Di pk pb
   have e2:wrap64 ((i:Int)+1)=((i+1:Nat):Int):=by have:=HB.out;unfold wrap64;omega
   have e2w:=wIq e2
   have hKS:K∉S':=fun hh=>by have:=hR.lt K hh;omega
   have hoo:=HO.out _ _ hU
   have HQ:=zH (And.intro hk1 (And.intro hstep (And.intro (hU.nil hca) (And.intro hpn (And.intro hpp (And.intro hI1 (And.intro hI2 (And.intro hI3 (And.intro hI4 (And.intro hoo (And.intro hKS him)))))))))))
   clear hk1 hstep hpn hpp hpd hsw hmc hsv hkn hdrop hwd hR hU hI1 hI2 hI3 hI4 hoo hKS hi him' hbx
   generalize putD Di pk pb=R at *
   obtain⟨D2,e2'⟩:=R
   simp only at hcode hwr
   go_upto_region 4 with (fail)
   replace c0:=hca.cell_some c0 (by simp)
   replace c1:=hca.cell_some c1 (by simp)
   clear hwA hK hca x0 x1
   obtain⟨W0,hW0⟩:∃W0,wA.drew=W0:=⟨_,rfl⟩
   have cd:Chg [] wA W0:=by rw[←hW0];exact (Chg.refl _ _).drew
   refine wp_region_U S' (fun _=>false) (by kernel_rfl) ?_
   rw[hW0]
   clear hW0
   have C0:Chg S' W0 W0:=Chg.refl _ _
   have hfo:=HQ.out.2.2.2.2.2.2.2.2.2.1.1
   have hKS:=HQ.out.2.2.2.2.2.2.2.2.2.2.1
   have c0':=cd.cell_some c0 (by simp)
   have c1':=cd.cell_some c1 (by simp)
   have z0':=cd.cell_some z0 (by simp)
   have z1':=cd.cell_some z1 (by simp)
   clear c0 c1 z0 z1
   refine tU 0 (.pointer (some ⟨f,0,none⟩)) C0 (fun w4 c4=>?_) ?_
   ·go_simp
   try simp only[Act.put,yA,yB,yC,yD,yE,yF]
   refine tU 1 (.pointer (some ⟨f,0,none⟩)) C0 (fun w4 c4=>?_) ?_
   ·go_simp
   try simp only[Act.put,yA,yB,yC,yD,yE,yF]
   refine tU 2 (.pointer (some ⟨f,0,none⟩)) C0 (fun w4 c4=>?_) ?_
   ·go_simp
   try simp only[Act.put,yA,yB,yC,yD,yE,yF]
   refine tU 3 (.pointer (some ⟨p,0,none⟩)) C0 (fun w4 c4=>?_) ?_
   ·have z:=c4.cell_some c0' hfo
    go_simp
   try simp only[Act.put,yA,yB,yC,yD,yE,yF]
   refine tU 4 (.pointer (some ⟨K,0,none⟩)) C0 (fun w4 c4=>?_) ?_
   ·go_simp
   try simp only[Act.put,yA,yB,yC,yD,yE,yF]
   refine tU 5 (.int .i64 pk) C0 (fun w4 c4=>?_) ?_
   ·have z:=c4.cell_some z0' hKS
    go_simp
   try simp only[Act.put,yA,yB,yC,yD,yE,yF]
   refine tU 6 (.pointer (some ⟨K,1,none⟩)) C0 (fun w4 c4=>?_) ?_
   ·go_simp
   try simp only[Act.put,yA,yB,yC,yD,yE,yF]
   refine tU 7 (.slice a5 256 q5) C0 (fun w4 c4=>?_) ?_
   ·have z:=c4.cell_some z1' hKS
    go_simp
   try simp only[Act.put,yA,yB,yC,yD,yE,yF]
   refine oU 8 ?_
   go_simp
   refine (hwr W0 cd).mono ?_
   rintro e w2 ⟨rfl,S2,hR2,hU2⟩
   refine⟨hU2.chg,?_⟩
   try simp only[Act.put,yA,yB,yC,yD,yE,yF]
   clear hwr
   refine tU 9 (.int .i64 e2') hU2.chg (fun w4 c4=>?_) ?_
   ·go_simp
   try simp only[Act.put,yA,yB,yC,yD,yE,yF]
   refine wpAnyU_done (by kernel_rfl) ?_ _
   have c0:=hU2.chg.cell_some c0' hfo
   have c1:=hU2.chg.cell_some c1' hfo
   have HU:=zA hR2 ((HQ.out.2.2.1.nil cd).trans hU2)
   clear hR2 hU2 C0 c0' c1' z0' z1' cd hfo hKS
   rcases hcode with ⟨rfl,hdn⟩ | rfl
   ·have HD2:=zH hdn
    clear hdn
    go_wp2_with fail
    go_roundg (gk - 1)
    case measure=>have h1:=HQ.out.1;have h2:=HQ.out.2.2.2.2.2.2.2.2.2.2.2;omega
    case rel=>
     obtain⟨q1,q2,q3,q4,q5,q6,q7,q8,q9,-,-,q10⟩:=HQ.out
     refine⟨i+1,S2,D2,by simp,c0,c1,q10,by omega,HU.out.1,HU.out.2,by rw[HD2.out];exact q6,by rw[q4];exact q7,by omega,by rw[q9,q2];simp,fun h=>by omega⟩
   ·go_wp2_with fail
    go_ret
    obtain⟨q1,q2,q3,q4,q5,q6,q7,q8,q9,-,-,q10⟩:=HQ.out
    have he:eachD D B=(D2,12):=by rw[q9,q2];simp
    have hw:writesD D B=(D2,12):=by unfold writesD;rw[he];simp
    have hB:B≠[]:=fun h=>by rw[h] at HM;have:=HM.out;simp at this;omega
    have hrun:RR=(D2,12):=by
     rw[←HR2.out.1,if_neg hB,List.singleton_append,runP_cons,hw]
     simp
    rw[hrun]
    refine⟨rfl,S2,HU.out.1,?_,(HO.out _ _ HU.out.2).2,?_⟩
    ·show LogR w2 l p (afterL 12 L _)
     exact HL.out.1.chg HU.out.2.chg HL.out.2.1
    ·refine⟨HU.out.2.chg.mono (fun k hk=>.inl (by simp[hk])),fun k hk=>?_⟩
     rcases List.mem_cons.1 hk with rfl | hk
     ·simp
     ·rcases HU.out.2.new k hk with h1 | h1
      ·simp[h1]
      ·exact .inr h1
  ·obtain⟨hi,hk1,hR,hU,hI1,hI2,hI3,hI4,hI5⟩:=HI.out
   have t1:decide ((i:Int)<(m:Int))=false:=decide_eq_false (by omega)
   have t1':decide (i<m)=false:=decide_eq_false him
   have e:i=m:=by omega
   subst e
   have he:eachD D B=(Di,0):=by rw[hI4,List.drop_of_length_le (by rw[HM.out];exact Nat.le_refl _)];rfl
   by_cases hi0:i=0
   ·have hB:B=[]:=List.eq_nil_of_length_eq_zero (by rw[HM.out];exact hi0)
    have hDi:=hI5 hi0
    have hfin:=FIN.out _ _ _ hR hU hI1 hI2 (by have:=HB.out;omega) (by rw[←HR2.out.1,if_pos hB,List.nil_append,hDi])
    subst hi0
    clear hi hk1 hR hU hI1 hI2 hI3 hI4 hI5 him he hB hDi HI
    go_wp2_with fail
    refine hfin.mono ?_
    rintro e w3 hE
    have hE':=hE
    obtain⟨rfl,-⟩:=hE'
    have HE:=zH hE
    clear hE hfin
    go_wp2_with fail
    go_ret
    exact HE.out
   ·have t2:decide ((0:Int)<(i:Int))=true:=decide_eq_true (by omega)
    have t2':decide (0<i)=true:=decide_eq_true (by omega)
    have hB:B≠[]:=fun h=>by rw[h] at HM;have:=HM.out;simp at this;omega
    have hfl:=flush_ok wr S' p Di hR hI1 (by have:=HB.out;omega)
    have hw:writesD D B=((flushD Di).1,0):=by
     unfold writesD;rw[he];simp only[if_true]
     unfold flushD;rw[hI1];rfl
    have hrun:RR=runP (flushD Di).1 (commitP L P):=by
     rw[←HR2.out.1,if_neg hB,List.singleton_append,runP_cons,hw]
     simp
    have hfd:(flushD Di).1.down=false∧(flushD Di).1.n=Di.n∧(flushD Di).1.pend=[]:=by unfold flushD;simp[hI1]
    have HW:=zC hrun hfd hU hI2
    have hfo:=(HO.out _ _ hU).1
    clear hi hk1 hR hU hI1 hI2 hI3 hI4 hI5 him he hB hi0 hw hrun hfd HI
    go_wp2_with fail
    refine hfl.mono ?_
    rintro e w2 ⟨rfl,S2,hR2,hU2⟩
    clear hfl
    have c1:=hU2.chg.cell_some c1 hfo
    have hfin:=FIN.out _ _ _ hR2 (HW.out.2.2.1.trans hU2) HW.out.2.1.1 (by rw[HW.out.2.1.2.1];exact HW.out.2.2.2) (by rw[HW.out.2.1.2.2];simp) HW.out.1
    clear hR2 hU2 hfo
    go_wp2_with fail
    refine hfin.mono ?_
    rintro e w3 hE
    have hE':=hE
    obtain⟨rfl,-⟩:=hE'
    have HE:=zH hE
    clear hE hfin
    go_wp2_with fail
    go_ret
    exact HE.out
end Go.Proofs.YtlidiclfpklliaaGreatDoor
namespace Go.Aq.Fy
open Go.Aq
theorem doF_err1 {F:FsD} {l:List ChangeD} {W:WorkD} {e:Nat} (h:allW F ⟨F.files,[]⟩ l=(W,e)) (he:e≠0):doF F l=(F,e):=by
 have:prepF F l=(e,[],[],F.log):=by unfold prepF;simp only[h];rw[if_pos he]
 unfold doF;simp only[this];rw[if_pos he]
theorem doF_err2 {F:FsD} {l:List ChangeD} {W:WorkD} (h:allW F ⟨F.files,[]⟩ l=(W,0)) (he:(freeF F).length<needW W.fresh):doF F l=(F,8):=by
 have:prepF F l=(8,[],[],F.log):=by unfold prepF;simp only[h];rw[if_neg (by simp),if_pos he]
 unfold doF;simp only[this];rw[if_pos (by decide)]
theorem doF_err3 {F:FsD} {l:List ChangeD} {W:WorkD} (h:allW F ⟨F.files,[]⟩ l=(W,0)) (h2:needW W.fresh≤(freeF F).length) (he:F.mt * 256<(tableB (placeF W.fresh (freeF F) W.files)).length):doF F l=(F,8):=by
 have:prepF F l=(8,[],[],F.log):=by unfold prepF;simp only[h];rw[if_neg (by simp),if_neg (by omega),if_pos he]
 unfold doF;simp only[this];rw[if_pos (by decide)]
theorem doF_err4 {F:FsD} {l:List ChangeD} {W:WorkD} (h:allW F ⟨F.files,[]⟩ l=(W,0)) (h2:needW W.fresh≤(freeF F).length) (h3:(tableB (placeF W.fresh (freeF F) W.files)).length≤F.mt * 256) (he:F.log.ring<need (diffF F (placeF W.fresh (freeF F) W.files)).length):doF F l=(F,9):=by
 have:prepF F l=(9,[],[],F.log):=by unfold prepF;simp only[h];unfold diffF at he;rw[if_neg (by simp),if_neg (by omega),if_neg (by omega),if_pos he]
 unfold doF;simp only[this];rw[if_pos (by decide)]
theorem doF_run {F:FsD} {l:List ChangeD} {W:WorkD} {fs:Files} {bl t:Puts} {R:DiskD×Nat} (h:allW F ⟨F.files,[]⟩ l=(W,0)) (h2:needW W.fresh≤(freeF F).length) (hfs:placeF W.fresh (freeF F) W.files=fs) (h3:(tableB fs).length≤F.mt * 256) (ht:diffF F fs=t) (h4:need t.length≤F.log.ring)
  (hbl:placeP (firstF F) W.fresh (freeF F)=bl) (hR:runP F.disk ((if bl=[] then [] else [bl])++commitP F.log t)=R):doF F l=if R.2=0 then (⟨R.1,if t=[] then F.log else nextL F.log t.length,F.mt,fs⟩,0) else ({ F with disk:=R.1 },R.2):=by
 have:prepF F l=(0,(if bl=[] then [] else [bl])++commitP F.log t,fs,if t=[] then F.log else nextL F.log t.length):=by
  subst hfs ht hbl
  unfold prepF
  simp only[h]
  rw[if_neg (by simp),if_neg (by omega),if_neg (by omega),if_neg (by unfold diffF at h4;omega)]
  rfl
 unfold doF
 simp only[this,hR]
 rw[if_neg (by simp)]
theorem doF_n {q:Nat} {F:FsD} (h:FInv q F) (hq:q<2^47) (l:List ChangeD):(doF F l).1.disk.n=F.disk.n:=by
 rcases do_any h hq l with ⟨e,h1,-⟩ | ⟨-,bl,fs,-,-,-,(⟨D,h1,h2,-⟩ | ⟨D,h1,h2,-⟩)⟩
 ·rw[h1]
 ·rw[h1];exact h2
 ·rw[h1];exact h2
theorem nameOk_len {s:Nm} (h:nameOk s=true):s.length≤80:=by
 unfold nameOk at h
 simp only[Bool.and_eq_true,decide_eq_true_eq] at h
 exact h.2
theorem FilesOk.facts {all:Nat} {L:Files} (h:FilesOk all L) (ha:all≤4096):(∀p∈L,p.1.length≤255∧p.2.blocks.length≤4096)∧(∀p∈L,p.2.size<4294967296∧∀k∈p.2.blocks,k<65536)∧(∀p∈L,∀k∈p.2.blocks,k<all):=by
 refine⟨fun p hp=>?_,fun p hp=>?_,fun p hp k hk=>h.bound k (List.mem_flatMap.2 ⟨p,hp,hk⟩)⟩
 ·have h1:=nameOk_len (h.name p hp)
  obtain⟨h2,h3⟩:=h.size p hp
  rw[h3]
  unfold cnt
  omega
 ·have h1:=(h.size p hp).1
  exact⟨by omega,fun k hk=>by have:=h.bound k (List.mem_flatMap.2 ⟨p,hp,hk⟩);omega⟩
theorem diff_at {q:Nat} {F:FsD} (h:FInv q F) (fs:Files):((diffF F fs).map (·.1)).Nodup∧(diffF F fs).length≤200∧∀p∈diffF F fs,atHome F.disk F.log p.1=true:=by
 refine⟨differ_nodup _ _ _,?_,fun p hp=>?_⟩
 ·have h1:=differ_len (homeL F.log+1) (sectorsB F.mt F.files) (sectorsB F.mt fs)
  rw[sectors_len h.tlen] at h1
  have h2:=h.geo.mt
  unfold diffF
  omega
 ·obtain⟨i,h1,-,rfl⟩:=differ_mem.1 hp
  rw[sectors_len h.tlen] at h1
  have h2:=h.geo.first
  unfold atHome
  simp only[Bool.and_eq_true,decide_eq_true_eq]
  omega
theorem free_len (F:FsD):(freeF F).length≤allF F:=by
 unfold freeF
 exact Nat.le_trans (List.length_filter_le _ _) (by simp)
theorem len_le_of_sub {α:Type} [DecidableEq α]:∀{l m:List α},l.Nodup→(∀x∈l,x∈m)→l.length≤m.length
 | [],m,_,_=>Nat.zero_le _
 | a::l,m,hn,hs=>by
  obtain⟨h1,h2⟩:=List.pairwise_cons.1 hn
  have ha:=hs a (.head _)
  have h3:∀x∈l,x∈m.erase a:=fun x hx=>(List.mem_erase_of_ne (fun e=>h1 x hx e.symm)).2 (hs x (.tail _ hx))
  have h4:=len_le_of_sub h2 h3
  rw[List.length_erase_of_mem ha] at h4
  have h5:=List.length_pos_of_mem ha
  simp only[List.length_cons]
  omega
theorem fresh_le {used:List Nat} {W:WorkD} (h:WorkOk used W):W.fresh.length≤W.files.length:=by
 have h1:(W.fresh.map (·.1)).Nodup:=by
  have:=h.asc2
  exact List.pairwise_map.2 (this.imp fun {a b} hab e=>by rw[e] at hab;exact List.lt_irrefl _ hab)
 have h2:W.fresh.map (·.1) ⊆ W.files.map (·.1):=fun s hs=>by
  obtain⟨p,hp,rfl⟩:=List.mem_map.1 hs
  have:=(h.sub p.1 p.2 (look_of_mem h.asc2 hp)).1
  exact List.mem_map.2 ⟨_,look_mem this,rfl⟩
 have:=len_le_of_sub h1 h2
 simpa using this
end Go.Aq.Fy
namespace Go.Proofs.YtlidiclfpklliaaGreatDoor
open Go.RowKit Go.Aq Go.Aq.Fy Go.Maps
inductive CellsC (w:World):List ChangeD→List Value→Prop
 | nil:CellsC w [] []
 | cons {c:ChangeD} {cs:List ChangeD} {dv:Value} {xs:List Value}:Sees w 1 dv c.data.length (Bs c.data)→CellsC w cs xs→CellsC w (c::cs) (.int .i64 c.kind:: .string (str c.name):: .string (str c.tonm)::dv::xs)
theorem CellsC.get {w:World}:∀{cs:List ChangeD} {xs:List Value},CellsC w cs xs→∀{i:Nat} {c:ChangeD},cs[i]?=some c→∃dv,xs[4 * i]?=some (.int .i64 c.kind)∧xs[4 * i+1]?=some (.string (str c.name))∧xs[4 * i+2]?=some (.string (str c.tonm))∧xs[4 * i+3]?=some dv∧Sees w 1 dv c.data.length (Bs c.data)
 | _,_,.nil,i,c,h=>by simp at h
 | _,_,.cons h1 h2,0,c,h=>by
  simp only[List.getElem?_cons_zero,Option.some.injEq] at h
  subst h
  exact⟨_,rfl,rfl,rfl,rfl,h1⟩
 | _,_,.cons h1 h2,i+1,c,h=>by
  simp only[List.getElem?_cons_succ] at h
  obtain⟨dv,k1,k2,k3,k4,k5⟩:=h2.get h
  refine⟨dv,?_,?_,?_,?_,k5⟩
  all_goals rw[show 4 * (i+1)=4 * i+1+1+1+1 by omega];simpa using by assumption
theorem CellsC.len {w:World}:∀{cs:List ChangeD} {xs:List Value},CellsC w cs xs→xs.length=cs.length * 4
 | _,_,.nil=>rfl
 | _,_,.cons h1 h2=>by simp[h2.len];omega
theorem CellsC.chg0 {w w':World} (c:Chg [] w w'):∀{cs:List ChangeD} {xs:List Value},CellsC w cs xs→CellsC w' cs xs
 | _,_,.nil=>.nil
 | _,_,.cons h1 h2=>.cons (h1.chg0 c) (h2.chg0 c)
theorem fclone_any (w:World) (S:List Nat) (b:Nat) (L:Files) (h:FilesR w S b L):
  Calls Tryz.prog 59 #[.map (some b)] w fun e w'=>e=.returned (.map (some w.heap.size))∧(∀T:List Nat,(∀k∈T,k∈S∨w.heap.size≤k)→FilesR w' T w.heap.size L)∧Chg [] w w'∧w.heap.size<w'.heap.size:=by
 obtain⟨l,hM,hT⟩:=h
 have h0:=hM.owns
 obtain⟨es,clock,hb,F,hs,hD⟩:=h0
 refine (AnyW.maps_Clone Tryz.mc59 b es clock w hb).mono fun e w' ⟨h1,h2⟩=>?_
 subst h2
 have hc:Chg [] w (w.alloc (.map es clock)):=(Chg.refl [] w).alloc _
 exact⟨h1,fun T hk=>⟨l,⟨hM.asc,hM.short,es,clock,heap_alloc_new w _,F,hs,hD⟩,hT.imp fun _ _ _ k=>(k.wide hk).chg hc (by simp)⟩,hc,by simp⟩
theorem bytes_any {q:Nat} {f l bf:Nat} (w:World) (Sd X S0:List Nat) (hS0:∀k∈S0,k<w.heap.size) (hsub:∀k∈f::l::bf::Sd,k∈S0) (g d bl br:Nat) (F:FsD) (W:WorkD) (h:WorkR w S0 g f bl br W) (hF:FsR w Sd X f d l bf F) (hI:FInv q F) (hW:WorkOk (blks F.files) W) (s:Nm) (hs:s.length≤1048576) (hh:hasF W.files s=true):
  (bytesW F W s).length≤1000000∧∀w',Chg [] w w'→Calls Tryz.prog 195 #[.pointer (some ⟨g,0,none⟩),.string (str s)] w' (BytesEnd w' (bl::br::S0) (bytesW F W s)):=by
 obtain⟨x,hx⟩:∃x,lookK s W.files=some x:=Option.isSome_iff_exists.1 hh
 cases hf:lookK s W.fresh with
 | some b=>
  have e1:bytesW F W s=b:=by unfold bytesW;rw[hf]
  refine⟨by rw[e1];have:=(hW.sub s b hf).2;omega,fun w' c=>?_⟩
  exact bytes_fresh w' _ g f bl br F W (h.chg0 c) s hs b hf
 | none=>
  obtain⟨h1,h2⟩:=hW.old s x hx hf
  have hbk:∀k∈x.blocks,k<allF F:=fun k hk=>hI.files.bound k (hW.used k (List.mem_flatMap.2 ⟨(s,x),look_mem hx,hk⟩))
  have e1:bytesW F W s=bytesB F x:=by unfold bytesW;rw[hf,hx]
  have hc:x.size≤256 * x.blocks.length∧x.blocks.length≤256:=by rw[h2];unfold cnt;omega
  refine⟨by rw[e1];unfold bytesB;rw[List.length_take];omega,fun w' c=>?_⟩
  exact bytes_file w' Sd X S0 g f d l bf bl br F W (h.chg0 c) (fun k hk=>Nat.lt_of_lt_of_le (hS0 k hk) c.size) hsub (hF.chg0 c) hI.rest.up s hs hf x hx hc.1 (by omega) hbk fun k _=>hI.rest.len k
end Go.Proofs.YtlidiclfpklliaaGreatDoor
namespace Go.Aq.Fy
theorem eq_step {α:Type} {a b:List α} {i:Nat} (ha:i<a.length) (hb:i<b.length) (h:a.take i=b.take i):(a.take (i+1)=b.take (i+1))↔a[i]=b[i]:=by
 rw[List.take_succ_eq_append_getElem ha,List.take_succ_eq_append_getElem hb,h]
 exact⟨fun e=>by have e:=List.append_cancel_left e;injection e,fun e=>by rw[e]⟩
theorem eq_no {α:Type} {a b:List α} {i:Nat} (ha:i<a.length) (hb:i<b.length) (h:a[i]≠b[i]):a≠b:=by
 rintro rfl
 exact h rfl
theorem eq_all {α:Type} {a b:List α} {n:Nat} (ha:a.length=n) (hb:b.length=n) (h:a.take n=b.take n):a=b:=by
 rw[List.take_of_length_le (by omega),List.take_of_length_le (by omega)] at h
 exact h
theorem lg1 {i k m:Nat} (h:i+k=m) (hi:i<m):i+1+(k - 1)=m∧k - 1<k:=by omega
theorem lg2 {i k m:Nat} (h:i+k=m) (hi:¬i<m):i=m:=by omega
end Go.Aq.Fy
namespace Go.Proofs.YtlidiclfpklliaaGreatDoor
open Go.RowKit Go.Aq Go.Aq.Fy Go.Maps
theorem texts_any (w:World) (va vb:Value) (a b:List Nm) (n m:Nat) (hn:a.length=n) (hm:b.length=m) (ha:Sees w 1 va n (names a)) (hb:Sees w 1 vb m (names b)) (hbl:n≤1000000000):
  Calls Tryz.prog 24 #[va,vb] w fun e w'=>e=.returned (.bool (decide (a=b)))∧Chg [] w w':=by
 obtain⟨aoa,capa,rfl,hcapa,hnoa⟩:=ha.shape
 obtain⟨aob,capb,rfl,hcapb,hnob⟩:=hb.shape
 obtain⟨R,hR⟩:∃R,decide (a=b)=R:=⟨_,rfl⟩
 rw[hR]
 have HR:=zH hR
 clear hR
 by_cases hnm:n=m
 ·subst hnm
  have t0:((n:Int) != (n:Int))=false:=by simp
  have t0':(n != n)=false:=by simp
  have HH:=zD hn hm ha hb hbl
  clear hn hm ha hb hbl hnoa hnob
  go_enter Tryz.func24,Tryz.ntmps24
  go_wp2_with fail
  go_loopg [5] n (fun kk vi wr=>∃(j:Nat),vi=.int .i64 j∧Hid (j+kk=n∧a.take j=b.take j∧Chg [] w wr))
  case atStart=>exact⟨0,rfl,Nat.zero_add _,rfl,Chg.refl _ _⟩
  case round=>
   obtain⟨j,rfl,HJ⟩:=hrel
   by_cases hlt:j<n
   ·have t1:decide ((j:Int)<(n:Int))=true:=by simp;omega
    have t1':decide (j<n)=true:=by simp;omega
    obtain⟨ga,offa,capa',hsa,-,hcella⟩:=(HH.out.2.2.1.chg0 HJ.out.2.2).at1 (by omega)
    obtain⟨gb,offb,capb',hsb,-,hcellb⟩:=(HH.out.2.2.2.1.chg0 HJ.out.2.2).at1 (by omega)
    simp only[Value.slice.injEq,true_and] at hsa hsb
    obtain⟨rfl,rfl⟩:=hsa
    obtain⟨rfl,rfl⟩:=hsb
    have a0:=hcella j hlt
    have b0:=hcellb j hlt
    have hja:j<a.length:=by rw[HH.out.1];exact hlt
    have hjb:j<b.length:=by rw[HH.out.2.1];exact hlt
    have xa:(names a)[j]?=some (.string (str (a[j]'hja))):=by simp[names,hja]
    have xb:(names b)[j]?=some (.string (str (b[j]'hjb))):=by simp[names,hjb]
    rw[xa] at a0
    rw[xb] at b0
    have e2:wrap64 ((j:Int)+1)=((j+1:Nat):Int):=by unfold wrap64;have:=HH.out.2.2.2.2;omega
    have e2w:=wIq e2
    have hst:=eq_step hja hjb HJ.out.2.1
    have hno:=eq_no hja hjb
    have HQ:=zB (lg1 HJ.out.1 hlt) hst hno
    clear hcella hcellb hst hno xa xb
    generalize (a[j]'hja)=A at *
    generalize (b[j]'hjb)=B at *
    by_cases hAB:A=B
    ·subst hAB
     have e1:((str A).toList != (str A).toList)=false:=by simp
     go_wp2_with fail
     go_quiet (fail)
     go_wp2_with fail
     go_roundg (gk - 1)
     case measure=>exact HQ.out.1.2
     case rel=>exact⟨j+1,by simp,HQ.out.1.1,HQ.out.2.1.2 (by simp),HJ.out.2.2.trans ((Chg.refl [] wr).drewN nq) (by simp)⟩
    ·have e1:((str A).toList==(str B).toList)=false:=by rw[str_toList,str_toList];simpa using hAB
     have HN:=zH (HQ.out.2.2 hAB)
     clear hAB
     go_wp2_with fail
     go_quiet (fail)
     go_wp2_with fail
     go_ret
     have hRf:R=false:=by rw[←HR.out,decide_eq_false HN.out]
     subst hRf
     exact⟨rfl,HJ.out.2.2.trans ((Chg.refl [] wr).drewN nq) (by simp)⟩
   ·have t1:decide ((j:Int)<(n:Int))=false:=by simp;omega
    have t1':decide (j<n)=false:=by simp;omega
    have hjn:=lg2 HJ.out.1 hlt
    have hall:=eq_all HH.out.1 HH.out.2.1 (by rw[←hjn];exact HJ.out.2.1)
    clear hlt hjn
    go_wp2_with fail
    go_ret
    have hRf:R=true:=by rw[←HR.out,decide_eq_true hall]
    subst hRf
    exact⟨rfl,HJ.out.2.2⟩
 ·have t0:((n:Int) != (m:Int))=true:=by simp;omega
  have t0':(n != m)=true:=by simp;omega
  have hne:a≠b:=fun e=>hnm (by rw[←hn,←hm,e])
  clear hn hm ha hb hbl hnoa hnob hnm
  go_enter Tryz.func24,Tryz.ntmps24
  go_wp2_with fail
  go_ret
  have hRf:R=false:=by rw[←HR.out,decide_eq_false hne]
  subst hRf
  exact⟨rfl,Chg.refl _ _⟩
def RowsV (w:World) (S:List Nat) (v:Value) (L:List Sec):Prop:=∃xs,Sees w 1 v L.length xs∧(∀(i:Nat) (b:Sec),L[i]?=some b→∃y,xs[i]?=some y∧Sees w 1 y b.length (Bs b)∧Disj (eyes y) S)∧Disj (eyes v) S
theorem RowsV.chg {w w':World} {S T:List Nat} {v:Value} {L:List Sec} (h:RowsV w S v L) (c:Chg T w w') (hT:∀k∈T,k∈S∨w.heap.size≤k):RowsV w' S v L:=by
 obtain⟨xs,h1,h2,h3⟩:=h
 have far:∀{y:Value} {n:Nat} {ys:List Value},Sees w 1 y n ys→Disj (eyes y) S→Sees w' 1 y n ys:=fun hs hd=>hs.chg c fun k hk hk'=>by
  rcases hT k hk' with h4 | h4
  ·exact hd k hk h4
  ·have:=hs.lt (by decide) k hk;omega
 refine⟨xs,far h1 h3,fun i b hb=>?_,h3⟩
 obtain⟨y,e,hs,hd⟩:=h2 i b hb
 exact⟨y,e,far hs hd,hd⟩
theorem RowsV.wide {w:World} {S T:List Nat} {v:Value} {L:List Sec} (h:RowsV w S v L) (hs:∀k∈T,k∈S∨w.heap.size≤k):RowsV w T v L:=by
 obtain⟨xs,h1,h2,h3⟩:=h
 have far:∀{y:Value} {n:Nat} {ys:List Value},Sees w 1 y n ys→Disj (eyes y) S→Disj (eyes y) T:=fun hy hd k hk hk'=>by
  rcases hs k hk' with h4 | h4
  ·exact hd k hk h4
  ·have:=hy.lt (by decide) k hk;omega
 refine⟨xs,h1,fun i b hb=>?_,far h1 h3⟩
 obtain⟨y,e,hy,hd⟩:=h2 i b hb
 exact⟨y,e,hy,far hy hd⟩
def ShotR (w:World) (S:List Nat) (v:Value) (V:View):Prop:=∃nv bv,v=.agg #[nv,bv]∧Sees w 1 nv V.length (names (V.map (·.1)))∧Disj (eyes nv) S∧RowsV w S bv (V.map (·.2))
theorem ShotR.chg {w w':World} {S T:List Nat} {v:Value} {V:View} (h:ShotR w S v V) (c:Chg T w w') (hT:∀k∈T,k∈S∨w.heap.size≤k):ShotR w' S v V:=by
 obtain⟨nv,bv,rfl,h1,h2,h3⟩:=h
 exact⟨nv,bv,rfl,h1.chg c fun k hk hk'=>by
  rcases hT k hk' with h4 | h4
  ·exact h2 k hk h4
  ·have:=h1.lt (by decide) k hk;omega,h2,h3.chg c hT⟩
theorem ShotR.wide {w:World} {S T:List Nat} {v:Value} {V:View} (h:ShotR w S v V) (hs:∀k∈T,k∈S∨w.heap.size≤k):ShotR w T v V:=by
 obtain⟨nv,bv,rfl,h1,h2,h3⟩:=h
 exact⟨nv,bv,rfl,h1,fun k hk hk'=>by
  rcases hs k hk' with h4 | h4
  ·exact h2 k hk h4
  ·have:=h1.lt (by decide) k hk;omega,h3.wide hs⟩
end Go.Proofs.YtlidiclfpklliaaGreatDoor
namespace Go.Aq
theorem keysR_bad (n:Nat) (r:RdD) (h:r.bad=true):keysR n r=([],r):=by
 cases n with
 | zero=>rfl
 | succ n=>unfold keysR;rw[if_pos h]
theorem keysR_step {n i:Nat} {r0 r:RdD} {done:List (List UInt8)} (h:keysR n r0=(done++(keysR (n - i) r).1,(keysR (n - i) r).2)) (hi:i<n) (hb:r.bad=false):
  keysR n r0=((done++[hexL (takeR 32 r).1])++(keysR (n - (i+1)) (takeR 32 r).2).1,(keysR (n - (i+1)) (takeR 32 r).2).2):=by
 obtain⟨k,hk⟩:∃k,n - i=k+1:=⟨n - i - 1,by omega⟩
 have hk2:n - (i+1)=k:=by omega
 rw[h,hk,hk2]
 have e:keysR (k+1) r=(hexL (takeR 32 r).1::(keysR k (takeR 32 r).2).1,(keysR k (takeR 32 r).2).2):=by
  show (if r.bad then ([],r) else (hexL (takeR 32 r).1::(keysR k (takeR 32 r).2).1,(keysR k (takeR 32 r).2).2))=_
  rw[if_neg (by rw[hb];decide)]
 rw[e]
 simp
theorem takeR_rest (n:Nat) (r:RdD):(takeR n r).2.rest.length≤r.rest.length:=by
 unfold takeR
 split
 ·exact Nat.le_refl _
 ·simp
theorem keysR_len:∀(n:Nat) (r:RdD),(keysR n r).1.length≤n
 | 0,r=>Nat.le_refl _
 | n+1,r=>by
  unfold keysR
  split
  ·simp
  ·simp only[List.length_cons]
   have:=keysR_len n (takeR 32 r).2
   omega
end Go.Aq
namespace Go.Proofs.YtlidiclfpklliaaGreatDoor
open Go.RowKit Go.Aq Go.Aq.Fy Go.Maps
theorem wr_o1 {i n:Nat} (h:i<n) (hn:n≤100000):wrap64 ((i:Int)+1)=((i+1:Nat):Int):=by unfold wrap64;omega
theorem names_push (l:List Nm) (s:Nm):names (l++[s])=names l++[.string (str s)]:=by simp[names]
theorem sl_keys:SliceTy Tryz.prog 33 9 (.string ⟨#[]⟩) 1 16:=⟨Tryz.underlying33,by kernel_rfl,rfl,by decide⟩
def KeysI (w wr:World) (p B n:Nat) (r0:RdD) (i:Nat) (v:Value) (done:List (List UInt8)) (r:RdD):Prop:=
 OwnN w wr 9 1 v i (names done)∧keysR n r0=(done++(keysR (n - i) r).1,(keysR (n - i) r).2)∧RdO wr p B r∧r.rest.length≤r0.rest.length∧Chg [p] w wr
set_option maxRecDepth 100000 in
theorem okeys_ok (w:World) (p B:Nat) (hBw:B≤w.heap.size) (r0:RdD) (n:Nat) (h:RdO w p B r0) (hl:r0.rest.length≤1000000000) (hn:n≤100000):
  Calls Tryz.prog 246 #[.pointer (some ⟨p,0,none⟩),.int .i64 n] w fun e w'=>∃v,e=.returned v∧OwnN w w' 9 1 v (keysR n r0).1.length (names (keysR n r0).1)∧RdO w' p B (keysR n r0).2∧Chg [p] w w':=by
 have hpw:p<w.heap.size:=by obtain⟨v,hb,-⟩:=h;exact hb.lt
 have HH:=zD h hl hn hpw hBw
 clear h hl hpw hBw
 go_enter Tryz.func246,Tryz.ntmps246
 go_wp2_with fail
 go_loopg [5,6] n (fun k (v5 v6:Value) wr=>∃(i:Nat) (done:List (List UInt8)) (r:RdD),v6=.int .i64 i∧Hid (i+k=n∧KeysI w wr p B n r0 i v5 done r))
 case atStart=>exact⟨0,[],r0,rfl,Nat.zero_add _,OwnN.nil _ _ _ _,by simp,HH.out.1,Nat.le_refl _,Chg.refl _ _⟩
 case round=>
  obtain⟨i,done,r,rfl,HJ⟩:=hrel
  obtain⟨hik,hO,hK,hR,hrl,cp⟩:=HJ.out
  obtain⟨a5,q5,rfl,-⟩:=hO.shape
  obtain⟨vr,hbr,-,-,-⟩:=id hR
  obtain⟨⟨-,x1⟩,-⟩:=hbr.c2
  by_cases hi:i<n
  ·have t0:decide ((i:Int)<(n:Int))=true:=by simp;omega
   have t0':decide (i<n)=true:=by simp;omega
   cases hbad:r.bad with
   | true=>
    rw[hbad] at x1
    have e:=keysR_bad (n - i) r hbad
    rw[e] at hK
    simp only[List.append_nil] at hK
    have HE:=zC hO hK hR cp
    clear hik hO hK hR hrl cp hbr hbad e HJ hi
    go_wp2_with fail
    go_ret
    obtain⟨hO,hK,hR,cp⟩:=HE.out
    have hlen:done.length=i:=by have:=hO.own.len;rw[names_len] at this;omega
    rw[hK]
    exact⟨_,rfl,by rw[hlen];exact hO,hR,cp⟩
   | false=>
    rw[hbad] at x1
    have hst:=keysR_step hK hi hbad
    have htk:=otake_ok wr p B r 32 hR (Nat.le_trans hrl HH.out.2.1) (by decide)
    have hl2:=takeR_rest 32 r
    have hlt:=takeR_len 32 r
    have E2:Hid (wrap64 ((i:Int)+1)=((i+1:Nat):Int)):=wr_o1 hi HH.out.2.2.1
    have HQ:=zF (lg1 hik hi) hO hst (Nat.le_trans hl2 hrl) cp hlt (show i<100000 from Nat.lt_of_lt_of_le hi HH.out.2.2.1)
    clear hik hO hK hR hrl cp hbr hbad hst hl2 hlt HJ
    go_wp2_with fail
    refine htk.mono ?_
    rintro e w1 ⟨v1,rfl,hT1,hR1,c1⟩
    obtain⟨a1,q1,rfl,-⟩:=hT1.1.shape
    have hhx:=hex_any w1 _ _ _ hT1.1 (by have:=HQ.out.2.2.2.2.2.1;omega)
    have hO1:OwnN w w1 9 1 (.slice a5 i q5) i (names done):=HQ.out.2.1.chg c1 (fun t ht ht'=>by
     simp at ht';subst ht'
     have h1:=HQ.out.2.1.new t ht
     have h2:=HH.out.2.2.2.1
     omega)
    have H1:=zB hR1 (HQ.out.2.2.2.2.1.tr c1) hO1
    clear htk hT1 hR1 c1 hO1 x1
    go_wp2_with fail
    refine hhx.mono ?_
    rintro e w2 ⟨rfl,c2⟩
    have hown:=(H1.out.2.2.to c2).own
    have HC2:=zH c2
    clear hhx c2
    go_wp2_with (first
     | (at_builtin;refine wpList_push rfl _ _ 33 rfl sl_keys hown rfl rfl rfl (by have:=HQ.out.2.2.2.2.2.2;omega) (by have:=HQ.out.2.2.2.2.2.2;omega) ?_;intro g6 cp6 w3 ho3 c3 hg3 hcp3 hgl3)
     | fail)
    have H3:=zB ho3 c3 hg3
    clear ho3 c3 hg3 hcp3 hgl3 hown hi
    have e2:=E2.out
    have e2w:=wIq e2
    go_wp2_with fail
    go_roundg (gk - 1)
    case measure=>exact HQ.out.1.2
    case rel=>
     obtain⟨hik,hO,hst,hl2,cp,hlt,hi1⟩:=HQ.out
     obtain⟨hR1,cp1,hO1⟩:=H1.out
     obtain⟨ho3,c3,hg3⟩:=H3.out
     have c2:=HC2.out
     have hO2:=hO1.to c2
     have hnp:∀t∈(Value.slice a5 i q5).ownBlock.toList,w.heap.size≤t:=fun t ht=>hO.new t ht
     have hpo:p∉(Value.slice a5 i q5).ownBlock.toList:=fun hh=>by have h1:=hnp p hh;have h2:=HH.out.2.2.2.1;omega
     refine⟨i+1,done++[hexL (takeR 32 r).1],(takeR 32 r).2,by simp,hik.1,⟨by rw[names_push];exact ho3,fun t ht=>?_⟩,hst,?_,hl2,?_⟩
     ·simp[Value.ownBlock] at ht
      subst ht
      rcases hg3 with h | h
      ·exact hnp _ h
      ·have h1:=cp1.size;have h2:=c2.size;omega
     ·exact (hR1.chg c2 (by simp)).chg c3 (fun t ht=>⟨fun e=>hpo (e▸ht),Nat.le_trans HH.out.2.2.2.2 (hnp t ht)⟩)
     ·exact (cp1.nil c2).trans c3 (fun t ht=>.inr (hnp t ht))
  ·have t0:decide ((i:Int)<(n:Int))=false:=by simp;omega
   have t0':decide (i<n)=false:=by simp;omega
   have hin:i=n:=lg2 hik hi
   have e:n - i=0:=by omega
   rw[e] at hK
   have e2:keysR 0 r=([],r):=rfl
   rw[e2] at hK
   simp only[List.append_nil] at hK
   have HE:=zC hO hK hR cp
   clear hik hO hK hR hrl cp hbr e e2 HJ hi hin x1
   go_wp2_with fail
   go_ret
   obtain⟨hO,hK,hR,cp⟩:=HE.out
   have hlen:done.length=i:=by have:=hO.own.len;rw[names_len] at this;omega
   rw[hK]
   exact⟨_,rfl,by rw[hlen];exact hO,hR,cp⟩
end Go.Proofs.YtlidiclfpklliaaGreatDoor
