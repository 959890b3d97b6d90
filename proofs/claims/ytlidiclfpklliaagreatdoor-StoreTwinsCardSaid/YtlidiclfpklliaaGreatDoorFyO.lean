/- The log in memory: change. No statement of the seat is proved here. -/
import Derived.Test.YtlidiclfpklliaaGreatDoorG11
set_option linter.unusedSimpArgs false
set_option linter.unusedVariables false
set_option maxHeartbeats 4000000
namespace Go.Aq.Fy
open Go.Aq Go.RowKit
theorem descs_length (l:Puts) (d:Nat):(descs l d).length=d:=by simp[descs]
theorem change_lo (L:LogD) (l:Puts) (i:Nat) (h:i<(l.length+63) / 64):(changeL L l)[i]?=some (inL L i,fill (((l.drop (64 * i)).take 64).flatMap fun p=>beB p.1 2)):=by
 unfold changeL
 rw[List.getElem?_mapIdx,List.getElem?_append_left (by rw[descs_length];exact h)]
 simp[descs,h]
theorem change_hi (L:LogD) (l:Puts) (i:Nat) (k:Nat) (b:Sec) (h:l[i]?=some (k,b)):(changeL L l)[(l.length+63) / 64+i]?=some (inL L ((l.length+63) / 64+i),b):=by
 unfold changeL
 rw[List.getElem?_mapIdx,List.getElem?_append_right (by rw[descs_length];omega),descs_length,Nat.add_sub_cancel_left]
 simp[h]
theorem change_length (L:LogD) (l:Puts):(changeL L l).length=(l.length+63) / 64+l.length:=by simp[changeL,descs_length]
theorem beBs_length (l:Puts):(l.flatMap fun p=>beB p.1 2).length=l.length * 2:=by
 induction l with
 | nil=>rfl
 | cons p l ih=>rw[List.flatMap_cons,List.length_append,ih,beB_length,List.length_cons];omega
end Go.Aq.Fy
namespace Go.Proofs.YtlidiclfpklliaaGreatDoor
open Go.RowKit Go.Aq Go.Aq.Fy Go.Maps
theorem pend_drop {w:World} {S:List Nat}:∀{l:Puts} {xs:List Value},PendR w S l xs→∀i,PendR w S (l.drop i) (xs.drop (2 * i))
 | _,_,.nil,i=>by simp;exact .nil
 | _,_,.cons h1 h2,0=>.cons h1 h2
 | _,_,.cons h1 h2,i+1=>by
  rw[show 2 * (i+1)=2 * i+1+1 by omega]
  simp only[List.drop_succ_cons]
  exact pend_drop h2 i
theorem puts_part {w:World} {g off n cap q m:Nat} {xs:List Value} (h:Sees w 2 (.slice (some ⟨g,off,none⟩) n cap) n xs) (hm:q+m≤n):Sees w 2 (.slice (some ⟨g,off+q * 2,none⟩) m (cap - q)) m ((xs.drop (2 * q)).take (2 * m)):=by
 obtain⟨h1,ao',cap',he,h2,h3,h4⟩:=h
 cases he
 refine⟨by simp;omega,_,_,rfl,by omega,by simp,fun ad had j u hu=>?_⟩
 cases had
 have hj:j<((xs.drop (2 * q)).take (2 * m)).length:=(List.getElem?_eq_some_iff.1 hu).1
 rw[List.getElem?_take_of_lt (by simp at hj;omega),List.getElem?_drop] at hu
 have:=h4 _ rfl (2 * q+j) u hu
 rw[Addr.add_lit] at this ⊢
 rw[show off+q * 2+j=off+(2 * q+j) by omega]
 exact this
set_option maxRecDepth 100000 in
theorem change_ok (w:World) (S:List Nat) (l p:Nat) (L:LogD) (hL:LogR w l p L) (h0:0<L.ring) (hr:L.ring<65536) (hpos:L.pos<65536) (P:Puts) (n:Nat) (hn:P.length=n) (v:Value) (xs:List Value) (hv:Sees w 2 v n xs) (hx:PendR w S P xs)
  (hb:n≤10000) (hk:∀q∈P,q.1<65536) (hS:In w S):
  Calls Tryz.prog 199 #[.pointer (some ⟨l,0,none⟩),v] w fun e w'=>∃v' ys,e=.returned v'∧Fresh w w' 199 2 v' (changeL L P).length ys∧PendR w' S (changeL L P) ys:=by
 obtain⟨ao,cap,rfl,hcap,-⟩:=hv.shape
 have hQl:=change_length L P
 have hQlo:=change_lo L P
 have hQhi:=change_hi L P
 rw[hn] at hQl hQlo hQhi
 obtain⟨d,hd⟩:∃d,(n+63) / 64=d:=⟨_,rfl⟩
 rw[hd] at hQl hQlo hQhi
 rw[hQl]
 have HQ:=zB hQl hQlo hQhi
 generalize changeL L P=Q at *
 have HH:=zH (And.intro hL (And.intro h0 (And.intro hr (And.intro hpos (And.intro hn (And.intro hv (And.intro hx (And.intro hb (And.intro hk (And.intro hS (And.intro hcap (And.intro hd hx.length))))))))))))
 clear hL h0 hr hpos hn hv hx hb hk hS hcap hQl hQlo hQhi hd
 go_enter Tryz.func199,Tryz.ntmps199
 go_wp2_with fail
 go_loopg [5,6] d (fun k (v5 v6:Value) wr=>∃(j q:Nat) (ys:List Value),v6=.int .i64 (q:Int)∧Hid (q=64 * j∧j≤d∧k=d - j)∧Fresh w wr 199 2 v5 j ys∧PendR wr (v5.ownBlock.toList++S) (Q.take j) ys)
 case atStart=>exact⟨0,0,[],rfl,⟨rfl,by omega,by omega⟩,Fresh.nil _ _ _,.nil⟩
 case round=>
  obtain⟨j,q,ys,rfl,hJ,hF,hP⟩:=hrel
  by_cases hqn:q<n
  ·have t1:decide ((q:Int)<(n:Int))=true:=decide_eq_true (by omega)
   have t1':decide (q<n)=true:=decide_eq_true hqn
   obtain⟨v5a,v5c,rfl,-⟩:=hF.shape
   obtain⟨m,hm⟩:∃m,m=min 64 (n - q):=⟨_,rfl⟩
   have hn4:=HH.out.2.2.2.2.2.2.2.1
   have hcp:=HH.out.2.2.2.2.2.2.2.2.2.2.1
   have e1:wrap64 ((q:Int)+64)=((q+64:Nat):Int):=by unfold wrap64;omega
   have e2:min ((q+64:Nat):Int) (n:Int)=((q+m:Nat):Int):=by omega
   have t3:decide ((q+m:Nat)≤cap)=true:=decide_eq_true (by omega)
   have t3':decide (((q+m:Nat):Int)≤(cap:Int))=true:=decide_eq_true (by omega)
   have t4:decide (q≤q+m)=true:=decide_eq_true (by omega)
   have t4':decide ((q:Int)≤((q+m:Nat):Int))=true:=decide_eq_true (by omega)
   have hpos:0<m:=by omega
   obtain⟨g,off,cap',hs,-,-,-⟩:=HH.out.2.2.2.2.2.1.cells (by omega)
   injection hs with hs1 _ hs2
   subst hs1 hs2
   have hsub:q+m - q=m:=by omega
   have hcq:¬(cap=q):=by omega
   have p1:q≤q+m:=by omega
   have p2:q+m≤cap:=by omega
   have p1':(q:Int)≤((q+m:Nat):Int):=by omega
   have p2':((q+m:Nat):Int)≤(cap:Int):=by omega
   have HM:=zD hm hn4 hcp hpos hqn
   generalize hqm:q+m=qm at *
   have HQM:=zH hqm
   generalize hq64:q+64=q6 at *
   clear hm hn4 hcp hpos hqm hq64
   obtain⟨C,hC⟩:∃C,(P.drop q).take 64=C:=⟨_,rfl⟩
   have hCl:C.length=m:=by rw[←hC];simp;have h1:=HM.out.1;have h2:=HH.out.2.2.2.2.1;omega
   have hCx:PendR w S C ((xs.drop (2 * q)).take (2 * 64)):=by rw[←hC];exact pend_take (pend_drop HH.out.2.2.2.2.2.2.1 q) 64
   have hxe:(xs.drop (2 * q)).take (2 * m)=(xs.drop (2 * q)).take (2 * 64):=by
    have h1:=HM.out.1
    have h2:=HH.out.2.2.2.2.2.2.2.2.2.2.2.2
    have h3:=HH.out.2.2.2.2.1
    by_cases h:n - q≤64
    ·rw[List.take_of_length_le (by simp;omega),List.take_of_length_le (by simp;omega)]
    ·rw[show m=64 by omega]
   have hCs:Sees w 2 (.slice (some ⟨g,off+q * 2,none⟩) m (cap - q)) m ((xs.drop (2 * q)).take (2 * 64)):=by
    rw[←hxe];exact puts_part HH.out.2.2.2.2.2.1 (by have h1:=HM.out.1;have h2:=HM.out.2.2.2.2;omega)
   have hCk:∀t∈C,t.1<65536:=fun t ht=>HH.out.2.2.2.2.2.2.2.2.1 t (by rw[←hC] at ht;exact List.mem_of_mem_drop (List.mem_of_mem_take ht))
   have HC:=zD hCl hCx hCs hCk hC
   have HO:=zA hF hP
   clear hC hCl hCx hxe hCs hCk hF hP
   go_wp2_with fail
   clear e1 e2 t3 t3' t4 t4' hsub hcq p1 p2 p1' p2'
   obtain⟨G,rfl⟩:∃G,G=gk:=⟨_,rfl⟩
   obtain⟨wq,rfl⟩:∃wq,wq=wr:=⟨_,rfl⟩
   go_loopg [7,27] m (fun k (v7 v27:Value) wi=>∃(i:Nat),v27=.int .i64 (i:Int)∧i≤m∧k=m - i∧Fresh wq wi 5 1 v7 (i * 2) (Bs ((C.take i).flatMap fun p=>beB p.1 2)))
   case atStart=>exact⟨0,rfl,by omega,by omega,Fresh.nil _ _ _⟩
   case round=>
    obtain⟨i,rfl,hi,hk1,hB⟩:=hrel
    by_cases him:i<m
    ·have t3:decide ((i:Int)<(m:Int))=true:=decide_eq_true (by omega)
     have t3':decide (i<m)=true:=decide_eq_true him
     have him':i<C.length:=by rw[HC.out.1];exact him
     obtain⟨v7a,v7c,rfl,-⟩:=hB.shape
     obtain⟨g',off',cap',a5,q5,e1,hmc,x0,x1,hsv⟩:=HC.out.2.1.cells HC.out.2.2.1 HC.out.1 him'
     injection e1 with e1 _ e2
     injection e1 with e1
     injection e1 with e1 e1' _
     subst e1
     have cwi:Chg [] w wr:=HO.out.1.chg.nil hB.chg
     have y0:=cwi.cell_some x0 (by simp)
     have y1:=cwi.cell_some x1 (by simp)
     rw[←e1'] at y0 y1
     have hkk:=HC.out.2.2.2.1 _ (List.getElem_mem him')
     have hst:C.take (i+1)=C.take i++[C[i]]:=List.take_succ_eq_append_getElem him'
     generalize C[i]=pt at *
     obtain⟨pk,pb⟩:=pt
     simp only at y0 hkk
     have hca:Chg [] wr (wr.alloc (.cells #[.int .i64 pk,.slice a5 256 q5] 199)):=(Chg.refl [] wr).alloc _
     have hbx:Blk (wr.alloc (.cells #[.int .i64 pk,.slice a5 256 q5] 199)) wr.heap.size #[.int .i64 pk,.slice a5 256 q5] 199:=Blk.new _ _ _
     obtain⟨⟨z0,z1⟩,-⟩:=hbx.c2
     have hbg:=bigW (wr.alloc (.cells #[.int .i64 pk,.slice a5 256 q5] 199)) pk 2 pk rfl (by decide) (by decide) (bes_lt pk 2 65536 hkk (by decide))
     have hBa:=hB.to hca
     have hwi:Hid (wrap64 ((i:Int)+1)=(i:Int)+1):=by have h1:=HM.out.1;show _=_;unfold wrap64;omega
     have him64:i≤64:=by have h1:=HM.out.1;omega
     have HT:=zB hk1 hst him64
     clear x0 x1 hsv hmc him' hk1 hi hca hbx cwi hst hkk e1' e2 hB him64
     go_wp2_with fail
     refine hbg.mono ?_
     rintro e w3 ⟨g3,rfl,f3⟩
     have hB3:=hBa.to f3.chg
     clear hbg hBa y0 y1 z0 z1
     go_wp2_with (at_builtin;refine wpList_appF (w0:=wq) rfl _ _ 36 rfl sl_u8y hB3 rfl f3.own.sees rfl (Bs_one _) (by have:=HT.out.2.2;omega) (by have:=HT.out.2.2;omega) ?_;intro v9 w9 hF9 c9)
     go_roundg (gk - 1)
     case measure=>have:=HT.out.1;omega
     case rel=>
      have hi1:i+1≤m:=him
      refine⟨i+1,by rw[hwi.out];rfl,hi1,by have:=HT.out.1;omega,?_⟩
      rw[HT.out.2.1,List.flatMap_append,Bs_append,show (i+1) * 2=i * 2+2 by omega]
      simpa using hF9
    ·have t3:decide ((i:Int)<(m:Int))=false:=decide_eq_false (by omega)
     have t3':decide (i<m)=false:=decide_eq_false him
     have e:i=m:=by omega
     subst e
     obtain⟨v7a,v7c,hv7,-⟩:=hB.shape
     obtain⟨g7,c7,rfl,-,-,-⟩:=hB.own.pos (by have:=HM.out.2.2.2.1;omega)
     clear hv7
     have hCi:C.take i=C:=List.take_of_length_le (by rw[HC.out.1];exact Nat.le_refl _)
     rw[hCi] at hB
     have hbl:(C.flatMap fun p=>beB p.1 2).length=i * 2:=by rw[beBs_length,HC.out.1]
     have hfl:Q[j]?=some (inL L j,fill ([]++C.flatMap fun p=>beB p.1 2)):=by
      have h1:=HQ.out.2.1 j (by have h2:=hJ.out.1;have h3:=HM.out.2.2.2.2;have h4:=HH.out.2.2.2.2.2.2.2.2.2.2.2.1;omega)
      rw[←hJ.out.1,HC.out.2.2.2.2] at h1
      exact h1
     have cwr:Chg [] w wr:=HO.out.1.chg.nil hB.chg
     have hij:j≤10000:=by have h1:=hJ.out.1;have h2:=HM.out.2.2.2.2;have h3:=HM.out.2.1;omega
     have hi64:0<i∧i≤64:=by have h1:=HM.out.1;have h2:=HM.out.2.2.2.1;omega
     have hin1:=in_ok wr l p L (HH.out.1.chg cwr (by simp)) j (by omega) HH.out.2.2.1 HH.out.2.2.2.1 HH.out.2.1
     have HB:=zE hB hbl hfl cwr hij hi64
     clear hB hbl hfl cwr hij hi64 hCi him hk1 hi
     go_wp2_with fail
     refine hin1.mono ?_
     rintro e w3 ⟨rfl,q3,hq3⟩
     have c3:Chg [] wr w3:=by rw[hq3];exact (Chg.refl _ _).drewN q3
     clear hq3 hin1
     generalize inL L j=s1 at *
     obtain⟨bb,hbb⟩:∃bb,(C.flatMap fun p=>beB p.1 2)=bb:=⟨_,rfl⟩
     rw[hbb] at HB
     have hbx:Blk (w3.alloc (.cells #[.slice (some ⟨g7,0,none⟩) (i * 2) c7] 36)) w3.heap.size #[.slice (some ⟨g7,0,none⟩) (i * 2) c7] 36:=Blk.new _ _ _
     have hca:Chg [] w3 (w3.alloc (.cells #[.slice (some ⟨g7,0,none⟩) (i * 2) c7] 36)):=(Chg.refl [] _).alloc _
     have hsec:=sector_by (w3.alloc (.cells #[.slice (some ⟨g7,0,none⟩) (i * 2) c7] 36)) [] w3.heap.size 0 1 1 bb (by have h1:=HB.out.2.1;have h2:=HB.out.2.2.2.2.2.2;simp;omega) (fun w' c=>by
      have hsb:=((HB.out.1.own.sees.chg0 c3).chg0 hca).chg0 c
      have h:=Tryz.bytes_Join_one w3.heap.size 0 1 ⟨g7,0,none⟩ c7 bb (.slice none 0 0) w' (by have:=(hbx.chg0 c).cell 0;rw[HB.out.2.1];exact this) (fun t x hx=>by
       obtain⟨_,ao,cc,he,_,_,hcc⟩:=hsb
       cases he
       obtain⟨ht,rfl⟩:=List.getElem?_eq_some_iff.1 hx
       exact hcc _ rfl t _ (Bs_get bb t ht)) (by have h1:=HB.out.2.1;have h2:=HB.out.2.2.2.2.2.1;omega) (by have h1:=HB.out.2.1;have h2:=HB.out.2.2.2.2.2.2;omega)
      exact h)
     have HS:=zH (c3.nil hca)
     clear hbx c3 hca hbb
     go_wp2_with fail
     refine hsec.mono ?_
     rintro e w4 ⟨v4,rfl,hF4⟩
     obtain⟨a4,k4,rfl,-⟩:=hF4.shape
     clear hsec
     have c4:Chg [] wr w4:=HS.out.nil hF4.chg
     have hca:Chg [] w4 (w4.alloc (.cells #[.int .i64 s1,.slice a4 256 k4] 199)):=(Chg.refl [] _).alloc _
     have hbx:Blk (w4.alloc (.cells #[.int .i64 s1,.slice a4 256 k4] 199)) w4.heap.size #[.int .i64 s1,.slice a4 256 k4] 199:=Blk.new _ _ _
     have hsrc:Sees (w4.alloc (.cells #[.int .i64 s1,.slice a4 256 k4] 199)) 2 (.slice (some ⟨w4.heap.size,0,none⟩) 1 1) 1 [.int .i64 s1,.slice a4 256 k4]:=Sees.blk hbx
     have hone:∀u∈[Value.int .i64 s1,.slice a4 256 k4],u.oneCell'=true:=by intro u hu;simp at hu;rcases hu with rfl | rfl <;> rfl
     have hFa:=HO.out.1.to ((HB.out.1.chg.nil c4).nil hca)
     have hj4:=HB.out.2.2.2.2.1
     have HF4:=zB hF4 c4 hca
     clear hF4 c4 hbx hca
     go_wp2_with (at_builtin;refine wpList_app rfl _ _ 117 rfl sl_put hFa.own rfl hsrc rfl hone (by omega) (by omega) ?_;intro v8 w8 ho8 c8 hn8)
     have hF8:=hFa.app ho8 c8 hn8
     go_roundg (G - 1)
     case measure=>
      have h1:=hJ.out
      have h3:=HM.out.2.2.2.2
      have h4:=HH.out.2.2.2.2.2.2.2.2.2.2.2.1
      omega
     case rel=>
      have h1:=hJ.out
      have h3:=HM.out.2.2.2.2
      have h4:=HH.out.2.2.2.2.2.2.2.2.2.2.2.1
      have hqw:wrap64 ((q:Int)+64)=((q+64:Nat):Int):=by have h5:=HM.out.2.1;unfold wrap64;omega
      have cwq:Chg [] wq w4:=HB.out.1.chg.nil HF4.out.2.1
      have hw4:=cwq.size
      have hwa:=HF4.out.2.2.size
      have h6:=HO.out.1.own.lt
      have hS:=HH.out.2.2.2.2.2.2.2.2.2.1
      have hcw:=HO.out.1.chg.size
      have hF4:=HF4.out.1
      have hlt4:=hF4.own.lt
      have hsz3:=HS.out.size
      have hszr:=HB.out.1.chg.size
      have c48:Chg (Value.slice v5a j v5c).ownBlock.toList w4 w8:=HF4.out.2.2.toS.tr c8
      have hu:Upd ((Value.slice v5a j v5c).ownBlock.toList++S) (v8.ownBlock.toList++S) wq w8:=⟨(cwq.toS.tr c48).mono (fun k hk=>.inl (by simp[hk])),fun k hk=>by
       rcases List.mem_append.1 hk with hk | hk
       ·rcases hn8 k hk with h1 | h1
        ·exact .inl (by simp[h1])
        ·exact .inr (by omega)
       ·exact .inl (by simp[hk])⟩
      have hnew4:=hF4.new
      have hsv:SecV w8 (v8.ownBlock.toList++S) (.slice a4 256 k4) (fill ([]++bb)):=by
       have hoff:Disj (eyes (.slice a4 256 k4)) (Value.slice v5a j v5c).ownBlock.toList:=fun t ht ht'=>by
        have h1:=hnew4 t (eyes_own _ t ht)
        have h2:=h6 t ht'
        omega
       refine⟨(hF4.sees.chg0 HF4.out.2.2).chg c8 hoff,fun t ht ht'=>?_⟩
       have h1:=hnew4 t (eyes_own _ t ht)
       have h3:=hlt4 t (eyes_own _ t ht)
       rcases List.mem_append.1 ht' with ht' | ht'
       ·rcases hn8 t ht' with h2 | h2
        ·exact hoff t ht h2
        ·simp at h2;omega
       ·have h2:=hS t ht';omega
      have hst:Q.take (j+1)=Q.take j++[(s1,fill ([]++bb))]:=by rw[List.take_add_one,HB.out.2.2.1];rfl
      refine⟨j+1,q+64,ys++[.int .i64 s1,.slice a4 256 k4],by first | rfl | (rw[hqw];rfl) | (rw[hqw]),⟨by omega,by omega,by omega⟩,hF8,?_⟩
      rw[hst]
      exact PendR.snoc hsv (HO.out.2.upd hu)
  ·have t1:decide ((q:Int)<(n:Int))=false:=decide_eq_false (by omega)
   have t1':decide (q<n)=false:=decide_eq_false hqn
   have hjd:j=d:=by
    have h1:=hJ.out
    have h2:=HH.out.2.2.2.2.2.2.2.2.2.2.2.1
    omega
   subst hjd
   have HO:=zA hF hP
   obtain⟨v5a,v5c,rfl,-⟩:=hF.shape
   clear hF hP
   obtain⟨G,rfl⟩:∃G,G=gk:=⟨_,rfl⟩
   obtain⟨wq,rfl⟩:∃wq,wq=wr:=⟨_,rfl⟩
   go_wp2_with fail
   go_loopg [5,50] n (fun k (v5 v50:Value) wr=>∃(i:Nat) (ys:List Value),v50=.int .i64 (i:Int)∧i≤n∧k=n - i∧Fresh w wr 199 2 v5 (j+i) ys∧PendR wr (v5.ownBlock.toList++S) (Q.take (j+i)) ys)
   case atStart=>exact⟨0,ys,rfl,by omega,by omega,HO.out.1,HO.out.2⟩
   case round=>
    obtain⟨i,zs,rfl,hi,hk1,hF,hP⟩:=hrel
    by_cases him:i<n
    ·have t2:decide ((i:Int)<(n:Int))=true:=decide_eq_true (by omega)
     have t2':decide (i<n)=true:=decide_eq_true him
     have him':i<P.length:=by rw[HH.out.2.2.2.2.1];exact him
     obtain⟨v6a,v6c,rfl,-⟩:=hF.shape
     obtain⟨g',off',cap',a5,q5,e1,hmc,x0,x1,hsv⟩:=HH.out.2.2.2.2.2.2.1.cells HH.out.2.2.2.2.2.1 HH.out.2.2.2.2.1 him'
     injection e1 with e1 _ e2
     subst e1 e2
     have y0:=hF.chg.cell_some x0 (by simp)
     have y1:=hF.chg.cell_some x1 (by simp)
     have hfl:Q[j+i]?=some (inL L (j+i),(P[i]).2):=by
      have h1:=HQ.out.2.2 i (P[i]).1 (P[i]).2 (by rw[List.getElem?_eq_getElem him'])
      exact h1
     generalize P[i]=pt at *
     obtain⟨pk,pb⟩:=pt
     simp only at y0 hsv hfl
     have hji:j+i≤20200:=by have h1:=hJ.out.1;have h2:=HH.out.2.2.2.2.2.2.2.2.2.2.2.1;have h3:=HH.out.2.2.2.2.2.2.2.1;omega
     have hca:Chg [] wr (wr.alloc (.cells #[.int .i64 pk,.slice a5 256 q5] 199)):=(Chg.refl [] wr).alloc _
     have hbx:Blk (wr.alloc (.cells #[.int .i64 pk,.slice a5 256 q5] 199)) wr.heap.size #[.int .i64 pk,.slice a5 256 q5] 199:=Blk.new _ _ _
     have hwi:Hid (wrap64 ((i:Int)+1)=(i:Int)+1):=by have h1:=HH.out.2.2.2.2.2.2.2.1;show _=_;unfold wrap64;omega
     have HT:=zF hk1 hfl hji hsv hF hP hca
     clear x0 x1 hmc him' hk1 hi hfl hji hsv hF hP
     go_upto_region 15 with (fail)
     have z1:=hbx.cell 1
     clear y0 y1 hbx hca
     obtain⟨K,hK⟩:∃K,wr.heap.size=K:=⟨_,rfl⟩
     rw[hK] at z1 ⊢
     obtain⟨wA,hwA⟩:∃wA,wr.alloc (.cells #[.int .i64 pk,.slice a5 256 q5] 199)=wA:=⟨_,rfl⟩
     rw[hwA] at z1 HT ⊢
     have hFA:=HT.out.2.2.2.2.1.to HT.out.2.2.2.2.2.2
     have hKv:K∉(Value.slice v6a (j+i) v6c).ownBlock.toList:=fun hh=>by have:=HT.out.2.2.2.2.1.own.lt K hh;omega
     have hin1:=fun w' (c:Chg [] w w')=>in_ok w' l p L (HH.out.1.chg c (by simp)) (j+i) (by have:=HT.out.2.2.1;omega) HH.out.2.2.1 HH.out.2.2.2.1 HH.out.2.1
     generalize inL L (j+i)=s1 at *
     obtain⟨W0,hW0⟩:∃W0,wA.drew=W0:=⟨_,rfl⟩
     have cd:Chg [] wA W0:=by rw[←hW0];exact (Chg.refl _ _).drew
     refine wp_region_U (Value.slice v6a (j+i) v6c).ownBlock.toList (fun _=>false) (by kernel_rfl) ?_
     rw[hW0]
     clear hW0
     have C0:Chg (Value.slice v6a (j+i) v6c).ownBlock.toList W0 W0:=Chg.refl _ _
     have z1':=cd.cell_some z1 (by simp)
     refine tU 0 (.slice v6a (j+i) v6c) C0 (fun w4 c4=>?_) ?_
     ·go_simp
     try simp only[Act.put,yA,yB,yC,yD,yE,yF]
     refine tU 1 (.pointer (some ⟨l,0,none⟩)) C0 (fun w4 c4=>?_) ?_
     ·go_simp
     try simp only[Act.put,yA,yB,yC,yD,yE,yF]
     refine tU 2 (.slice v6a (j+i) v6c) C0 (fun w4 c4=>?_) ?_
     ·go_simp
     try simp only[Act.put,yA,yB,yC,yD,yE,yF]
     refine tU 3 (.int .i64 (j+i:Nat)) C0 (fun w4 c4=>?_) ?_
     ·go_simp
     try simp only[Act.put,yA,yB,yC,yD,yE,yF]
     refine tU 5 (.pointer (some ⟨K,1,none⟩)) C0 (fun w4 c4=>?_) ?_
     ·go_simp
     try simp only[Act.put,yA,yB,yC,yD,yE,yF]
     refine tU 6 (.slice a5 256 q5) C0 (fun w4 c4=>?_) ?_
     ·have z:=c4.cell_some z1' hKv
      go_simp
     try simp only[Act.put,yA,yB,yC,yD,yE,yF]
     refine oU 4 ?_
     go_simp
     refine (hin1 W0 (hFA.chg.nil cd)).mono ?_
     rintro e w1 ⟨rfl,q1,hq1⟩
     have c1:Chg [] W0 w1:=by rw[hq1];exact (Chg.refl _ _).drewN q1
     clear hq1 hin1
     refine⟨c1.toS,?_⟩
     try simp only[Act.put,yA,yB,yC,yD,yE,yF]
     refine tU 7 (.agg #[.int .i64 s1,.slice a5 256 q5]) c1.toS (fun w4 c4=>?_) ?_
     ·go_simp
     try simp only[Act.put,yA,yB,yC,yD,yE,yF]
     refine oU 8 ?_
     go_simp
     have hca:Chg [] w1 (w1.alloc (.cells #[.int .i64 s1,.slice a5 256 q5] 199)):=(Chg.refl [] _).alloc _
     have hbx:Blk (w1.alloc (.cells #[.int .i64 s1,.slice a5 256 q5] 199)) w1.heap.size #[.int .i64 s1,.slice a5 256 q5] 199:=Blk.new _ _ _
     have hsrc:Sees (w1.alloc (.cells #[.int .i64 s1,.slice a5 256 q5] 199)) 2 (.slice (some ⟨w1.heap.size,0,none⟩) 1 1) 1 [.int .i64 s1,.slice a5 256 q5]:=Sees.blk hbx
     refine⟨(c1.nil hca).toS,?_⟩
     try simp only[Act.put,yA,yB,yC,yD,yE,yF]
     have cA:Chg [] wA (w1.alloc (.cells #[.int .i64 s1,.slice a5 256 q5] 199)):=(cd.nil c1).nil hca
     have hFa:=hFA.to cA
     have hji:=HT.out.2.2.1
     refine oU 9 ?_
     refine wp_app _ _ 117 rfl sl_put hFa.own rfl hsrc rfl (by intro u hu;simp at hu;rcases hu with rfl | rfl <;> rfl) (by omega) (by omega) ?_
     intro v8 w8 ho8 c8 hn8
     have hF8:=hFa.app ho8 c8 hn8
     have cW8:=(c1.nil hca).toS.tr c8
     refine⟨cW8,?_⟩
     try simp only[Act.put,yA,yB,yC,yD,yE,yF]
     refine tU 10 (v8) cW8 (fun w4 c4=>?_) ?_
     ·go_simp
     try simp only[Act.put,yA,yB,yC,yD,yE,yF]
     refine wpAnyU_done (by kernel_rfl) ?_ _
     have cwr:Chg [] wr (w1.alloc (.cells #[.int .i64 s1,.slice a5 256 q5] 199)):=HT.out.2.2.2.2.2.2.nil cA
     have HZ:=zC hF8 cwr c8 hn8
     clear hF8 cwr c8 hn8 ho8 cW8 hFa hji cA hsrc hbx hca c1 z1 z1' C0 cd hFA hKv
     go_wp2_with fail
     go_roundg (gk - 1)
     case measure=>have:=HT.out.1;omega
     case rel=>
      have hi1:i+1≤n:=him
      have hk1:=HT.out.1
      have hszw:=HZ.out.2.1.size
      have hS:=HH.out.2.2.2.2.2.2.2.2.2.1
      have hcw:=HT.out.2.2.2.2.1.chg.size
      have hu:Upd ((Value.slice v6a (j+i) v6c).ownBlock.toList++S) (v8.ownBlock.toList++S) wr w8:=⟨(HZ.out.2.1.toS.tr HZ.out.2.2.1).mono (fun k hk=>.inl (by simp[hk])),fun k hk=>by
       rcases List.mem_append.1 hk with hk | hk
       ·rcases HZ.out.2.2.2 k hk with h1 | h1
        ·exact .inl (by simp[h1])
        ·exact .inr (by omega)
       ·exact .inl (by simp[hk])⟩
      have hlt5:=HT.out.2.2.2.1.sees.lt (by decide)
      have hnew6:=HT.out.2.2.2.2.1.new
      have hsv:SecV w8 (v8.ownBlock.toList++S) (.slice a5 256 q5) pb:=by
       have hoff:Disj (eyes (.slice a5 256 q5)) (Value.slice v6a (j+i) v6c).ownBlock.toList:=fun t ht ht'=>by
        have h1:=hlt5 t ht
        have h2:=hnew6 t ht'
        omega
       refine⟨(((HT.out.2.2.2.1.sees.chg0 HT.out.2.2.2.2.1.chg).chg0 HZ.out.2.1).chg HZ.out.2.2.1 hoff),fun t ht ht'=>?_⟩
       rcases List.mem_append.1 ht' with ht' | ht'
       ·rcases HZ.out.2.2.2 t ht' with h2 | h2
        ·exact hoff t ht h2
        ·have h1:=hlt5 t ht;omega
       ·exact HT.out.2.2.2.1.off t ht ht'
      have hst:Q.take (j+(i+1))=Q.take (j+i)++[(s1,pb)]:=by rw[←Nat.add_assoc,List.take_add_one,HT.out.2.1];rfl
      refine⟨i+1,zs++[.int .i64 s1,.slice a5 256 q5],by first | rfl | (rw[hwi.out];rfl),hi1,by omega,HZ.out.1,?_⟩
      rw[hst]
      exact PendR.snoc hsv (HT.out.2.2.2.2.2.1.upd hu)
    ·have t2:decide ((i:Int)<(n:Int))=false:=decide_eq_false (by omega)
     have t2':decide (i<n)=false:=decide_eq_false him
     have e:i=n:=by omega
     subst e
     obtain⟨v6a,v6c,rfl,-⟩:=hF.shape
     have htk:Q.take (j+i)=Q:=List.take_of_length_le (by rw[HQ.out.1];exact Nat.le_refl _)
     rw[htk] at hP
     have HE:=zA hF hP
     clear hF hP htk
     go_wp2_with fail
     go_ret
     exact⟨_,zs,rfl,HE.out.1,HE.out.2.upd ⟨Chg.refl _ _,fun k hk=>.inl (by simp[hk])⟩⟩
end Go.Proofs.YtlidiclfpklliaaGreatDoor
