/- Uniq StN -/
import Derived.Test.YtlidiclfpklliaaGreatDoorG40
set_option linter.unusedSimpArgs false
set_option linter.unusedVariables false
set_option maxHeartbeats 2000000
namespace Go.Proofs.YtlidiclfpklliaaGreatDoor
open Go.RowKit Go.Aq Go.Aq.Fy
theorem ownCutU {w:World} {e:TypeId} {size g cap n:Nat} {xs ys:List Value} (h:Aq.Own w e size (.slice (some ⟨g,0,none⟩) n cap) n (xs++ys)) {m:Nat} (hm:xs.length=m * size) (hmn:m≤n):Aq.Own w e size (.slice (some ⟨g,0,none⟩) m cap) m xs:=by
 refine⟨hm,.inr ?_⟩
 rcases h.2 with ⟨h1,_⟩ | ⟨g',cap',cur,h1,hb,hg,hc,hcm,hs,ht⟩
 ·cases h1
 ·cases h1
  refine⟨g,cap,cur,rfl,hb,hg,by omega,hcm,hs,?_⟩
  have h2:=congrArg (List.take (m * size)) ht
  rw[List.take_take,Nat.min_eq_left (Nat.mul_le_mul_right _ hmn),←hm,List.take_left] at h2
  rw[←hm];exact h2
theorem ownOneU {w:World} {k:Nat} {e:TypeId} {v:Value} (h:Blk w k #[v] e):Aq.Own w e 1 (.slice (some ⟨k,0,none⟩) 1 1) 1 [v]:=
 ⟨rfl,.inr ⟨k,1,#[v],rfl,Nat.zero_le _,h,Nat.le_refl _,by simp[maxLen],rfl,rfl⟩⟩
theorem sl_SU:SliceTy Tryz.prog 33 9 (.string (str [])) 1 16:=⟨Tryz.underlying33,by kernel_rfl,rfl,by decide⟩
theorem namesU_app (a b:List (List UInt8)):names (a++b)=names a++names b:=by simp[names]
theorem geq_strU (a b:List UInt8) (t:TypeId) (w:World):(binOp BinOp.geq t (.string (str a)) (.string (str b))).run Tryz.prog w=.ok (.bool (decide (b≤a))) w:=by
 have h:Op.bytesLess (str a).toList (str b).toList=decide (a<b):=by rw[Proofs.bytesLess_eq,str_toList,str_toList]
 have h3:(!decide (a<b))=decide (b≤a):=by
  by_cases l:a<b
  ·have:¬b≤a:=fun h=>List.not_lt.2 h l
   simp[l,this]
  ·have:b≤a:=List.not_lt.1 l
   simp[l,this]
 rw[←h3,←h]
 simp[binOp,Op.stringOp]
theorem Sees.dropU {w:World} {g off n cap k:Nat} {xs:List Value} (h:Sees w 1 (.slice (some ⟨g,off,none⟩) n cap) n xs) (hk:k≤n):
  Sees w 1 (.slice (some ⟨g,off+k,none⟩) (n - k) (cap - k)) (n - k) (xs.drop k):=by
 obtain⟨h1,ao',cap',h2,h3,h4,h5⟩:=h
 simp only[Value.slice.injEq,true_and] at h2
 obtain⟨rfl,rfl⟩:=h2
 refine⟨by simp;omega,_,_,rfl,by omega,by simp,fun ad' had' j u hu=>?_⟩
 simp only[Option.some.injEq] at had'
 subst had'
 rw[List.getElem?_drop] at hu
 have:=h5 _ rfl (k+j) u hu
 rw[Addr.add_lit] at this ⊢
 rw[Nat.add_assoc]
 exact this
theorem Sees.noneU (w:World) (ad:Addr):Sees w 1 (.slice (some ad) 0 0) 0 []:=⟨rfl,some ad,0,rfl,Nat.le_refl _,by simp,fun _ _ j u hu=>by simp at hu⟩
theorem namesU_one (l:List (List UInt8)):∀u∈names l,u.oneCell'=true:=by
 intro u hu
 obtain⟨a,_,rfl⟩:=List.mem_map.1 hu
 rfl
theorem namesU_one1 (x:List UInt8) (l:List (List UInt8)):∀u∈[Value.string (str x)]++names l,u.oneCell'=true:=by
 intro u hu
 rcases List.mem_append.1 hu with h | h
 ·rw[List.mem_singleton.1 h];rfl
 ·exact namesU_one l u h
structure UpNm (U:List (List UInt8)):Prop where
 up:U.Pairwise fun x y=>x≤y
 nd:U.Nodup
theorem upnm_ins {U:List (List UInt8)} (h:UpNm U) {x:List UInt8} {k:Nat} (h1:∀y∈U.take k,y≤x) (h2:∀y∈U.drop k,x≤y) (hx:x∉U):UpNm (U.take k++([x]++U.drop k)):=by
 have hp:(U.take k++U.drop k).Pairwise fun x y=>x≤y:=by rw[List.take_append_drop];exact h.up
 obtain⟨p1,p2,p3⟩:=List.pairwise_append.1 hp
 refine⟨?_,?_⟩
 ·refine List.pairwise_append.2 ⟨p1,List.pairwise_cons.2 ⟨h2,p2⟩,fun a ha b hb=>?_⟩
  rcases List.mem_cons.1 hb with rfl | hb
  ·exact h1 a ha
  ·exact p3 a ha b hb
 ·have hq:(x::U).Nodup:=List.nodup_cons.2 ⟨hx,h.nd⟩
  refine List.Perm.nodup ?_ hq
  have:(x::(U.take k++U.drop k)).Perm (U.take k++([x]++U.drop k)):=List.perm_middle.symm
  rw[List.take_append_drop] at this
  exact this
set_option maxRecDepth 100000 in
theorem unique_names (w:World) (v:Value) (l:List (List UInt8)) (hv:Sees w 1 v l.length (names l)) (hl:l.length≤8388608):
  Calls Tryz.prog 33 #[v] w fun e w'=>∃(v':Value) (U:List (List UInt8)),e=.returned v'∧Fresh w w' 9 1 v' U.length (names U)∧UpNm U∧(∀x,x∈U↔x∈l):=by
 obtain⟨n,HN⟩:∃n,Hid (l.length=n):=⟨_,rfl⟩
 rw[HN.out] at hv hl
 obtain⟨ao,cap,rfl,hcap,-⟩:=hv.shape
 have HV:=zH hv
 have HL:=zH hl
 clear hv hl
 go_enter Tryz.func33,Tryz.ntmps33
 go_wp2_with fail
 go_loopg [3,4,5] n (fun gk (v3 v4 v5:Value) wr=>∃(i:Nat) (U:List (List UInt8)),v4=.int .i64 (i:Int)∧i+gk=n∧Fresh w wr 9 1 v3 U.length (names U)∧U.length≤i∧UpNm U∧∀x,x∈U↔x∈l.take i)
 case atStart=>exact⟨0,[],rfl,by omega,Fresh.nil _ _ _,by simp,⟨List.Pairwise.nil,List.nodup_nil⟩,by simp⟩
 case round=>
  obtain⟨i,U,rfl,hik,hF,hUi,hU,hUm⟩:=hrel
  by_cases hin:i<n
  ·have t1:decide ((i:Int)<(n:Int))=true:=decide_eq_true (by omega)
   have t1':decide (i<n)=true:=decide_eq_true hin
   obtain⟨gl,offl,capl,e,-,hcl⟩:=(HV.out.chg0 hF.chg).at1 (by omega)
   injection e with e1 _ e2
   subst e1 e2
   have xl:=hcl i hin
   have hil:i<l.length:=by rw[HN.out];exact hin
   have hg:(names l)[i]?=some (.string (str l[i])):=by simp[names,hil]
   rw[hg] at xl
   have htk:l.take (i+1)=l.take i++[l[i]]:=List.take_succ_eq_append_getElem hil
   clear hcl hg
   generalize l[i]=x at *
   obtain⟨m,hm⟩:∃m,m=U.length:=⟨_,rfl⟩
   obtain⟨ao3,cap3,rfl,hc3⟩:=hF.shape
   rw[←hm] at hF hc3 hUi ⊢
   have HU:=zF hik hF hUi hU hUm htk hm
   have hml:=HL.out
   have hmi:(m:Int)≤8388608:=by omega
   clear hik hF hUi hU hUm htk hm hml
   go_wp2_with fail
   obtain⟨G,rfl⟩:∃G,G=gk:=⟨_,rfl⟩
   obtain⟨W1,hW1⟩:∃W,W=wr:=⟨_,rfl⟩
   rw[←hW1]
   rw[←hW1] at HU xl
   clear hW1
   go_loopg [5] m (fun gk (v5:Value) wr=>∃k:Nat,v5=.int .i64 (k:Int)∧gk=k∧k≤m∧(∀y∈U.drop k,x≤y)∧∃q,wr=W1.drewN q)
   case atStart=>exact⟨m,rfl,rfl,Nat.le_refl _,by rw[HU.out.2.2.2.2.2.2,List.drop_length];simp,0,rfl⟩
   case round=>
    obtain⟨k,rfl,hgk,hkm,hdr,q,rfl⟩:=hrel
    have hmU:=HU.out.2.2.2.2.2.2
    by_cases hP:∃j,k=j+1∧∃hj:j<U.length,x≤U[j]
    ·obtain⟨j,hj,hjU,hxj⟩:=hP
     obtain⟨g,cp,hsv,-,-,-⟩:=HU.out.2.1.own.pos (by omega)
     injection hsv with e1 _ e2
     subst e1 e2
     have xo:W1.cell? ⟨g,j,none⟩=some (.string (str U[j])):=by
      rw[Aq.Own.cellAt HU.out.2.1.own j (by omega)];simp[names,hjU]
     have hge:=geq_strU U[j] x 9
     rw[decide_eq_true hxj] at hge
     have y0:∀q,(W1.drewN q).cell? ⟨g,j,none⟩=some (.string (str U[j])):=fun q=>xo
     have y1:∀q,(W1.drewN q).cell? ⟨gl,offl+i,none⟩=some (.string (str x)):=fun q=>xl
     have hd':∀y∈U.drop j,x≤y:=by
      intro y hy
      rw[List.drop_eq_getElem_cons hjU] at hy
      rcases List.mem_cons.1 hy with rfl | hy
      ·exact hxj
      ·exact hdr y (by rw[hj];exact hy)
     generalize U[j]=z at *
     have r1:decide ((0:Int)<(k:Int))=true:=decide_eq_true (by omega)
     have r1':decide (0<k)=true:=decide_eq_true (by omega)
     have r2:wrap64 ((k:Int) - 1)=(j:Int):=by unfold wrap64;omega
     have r3:IntKind.i64.wrap ((k:Int) - 1)=(j:Int):=by rw[show (k:Int) - 1=(j:Int) by omega];exact wrap_i64_nat j (by omega)
     have i1:(j:Int)<m:=by omega
     have i2:(i:Int)<n:=by omega
     have HJ:=zC hkm hj hd' hgk
     clear hkm hj hd' hdr hxj hjU hmU hmi xo hin hgk
     go_upto_region 6 with (fail)
     go_quiet (fail)
     go_wp2_with fail
     obtain⟨hkm,hj,hd',hgk⟩:=HJ.out
     go_roundg j
     case measure=>omega
     case rel=>exact⟨j,rfl,rfl,by omega,hd',q+nq,rfl⟩
    ·have hex:∀y∈U.take k,y≤x∧y≠x:=by
      intro y hy
      obtain⟨j',hj',rfl⟩:=List.getElem_of_mem hy
      rw[List.length_take] at hj'
      rw[List.getElem_take]
      have hjU:k - 1<U.length:=by omega
      have h1:¬x≤U[k - 1]:=fun h=>hP ⟨k - 1,by omega,hjU,h⟩
      have h2:U[k - 1]≤x:=(List.le_total _ _).resolve_left h1
      have h3:U[j']≤U[k - 1]:=by
       rcases Nat.lt_or_ge j' (k - 1) with h | h
       ·exact List.pairwise_iff_getElem.1 HU.out.2.2.2.1.up j' (k - 1) (by omega) hjU h
       ·have:j'=k - 1:=by omega
        subst this;exact List.le_refl _
      exact⟨List.le_trans h3 h2,fun e=>h1 (by rw[←e];exact h3)⟩
     go_upto_region 6 with (fail)
     go_cut [27] from 14 to 27 (fun s wx=>s=.bool false∧∃q,wx=W1.drewN q)
     case first=>
      rcases Nat.eq_zero_or_pos k with h0 | h0
      ·have r1:decide ((0:Int)<(k:Int))=false:=decide_eq_false (by omega)
       have r1':decide (0<k)=false:=decide_eq_false (by omega)
       clear hex hP hdr hkm hgk hmU hmi h0
       go_quiet (fail)
       go_wp2_with fail
       go_meet
       exact⟨rfl,q+nq,by first | rfl | exact World.drewN_drewN _ _ _⟩
      ·obtain⟨j,hj⟩:∃j,k=j+1:=⟨k - 1,by omega⟩
       have hjU:j<U.length:=by omega
       have hxj:¬x≤U[j]:=fun h=>hP ⟨j,hj,hjU,h⟩
       obtain⟨g,cp,hsv,-,-,-⟩:=HU.out.2.1.own.pos (by omega)
       injection hsv with e1 _ e2
       subst e1 e2
       have xo:W1.cell? ⟨g,j,none⟩=some (.string (str U[j])):=by
        rw[Aq.Own.cellAt HU.out.2.1.own j (by omega)];simp[names,hjU]
       have hge:=geq_strU U[j] x 9
       rw[decide_eq_false hxj] at hge
       have y0:∀q,(W1.drewN q).cell? ⟨g,j,none⟩=some (.string (str U[j])):=fun q=>xo
       have y1:∀q,(W1.drewN q).cell? ⟨gl,offl+i,none⟩=some (.string (str x)):=fun q=>xl
       generalize U[j]=z at *
       have r1:decide ((0:Int)<(k:Int))=true:=decide_eq_true (by omega)
       have r1':decide (0<k)=true:=decide_eq_true (by omega)
       have r2:wrap64 ((k:Int) - 1)=(j:Int):=by unfold wrap64;omega
       have r3:IntKind.i64.wrap ((k:Int) - 1)=(j:Int):=by rw[show (k:Int) - 1=(j:Int) by omega];exact wrap_i64_nat j (by omega)
       have i1:(j:Int)<m:=by omega
       have i2:(i:Int)<n:=by omega
       clear hex hP hdr hkm hgk hmU hmi h0 hj hxj hjU xo hin
       go_quiet (fail)
       go_wp2_with fail
       go_meet
       exact⟨rfl,q+nq,by first | rfl | exact World.drewN_drewN _ _ _⟩
     case rest=>
     obtain⟨rfl,q2,rfl⟩:=hcut
     clear hP hgk
     by_cases hQ:∃hk:k<U.length,U[k]=x
     ·obtain⟨hkU,hkx⟩:=hQ
      have hxU:x∈U:=by rw[←hkx];exact List.getElem_mem _
      obtain⟨g,cp,hsv,-,-,-⟩:=HU.out.2.1.own.pos (by omega)
      injection hsv with e1 _ e2
      subst e1 e2
      have xo:W1.cell? ⟨g,k,none⟩=some (.string (str x)):=by
       rw[Aq.Own.cellAt HU.out.2.1.own k (by omega)];simp[names,hkU,hkx]
      have y0:∀q,(W1.drewN q).cell? ⟨g,k,none⟩=some (.string (str x)):=fun q=>xo
      have y1:∀q,(W1.drewN q).cell? ⟨gl,offl+i,none⟩=some (.string (str x)):=fun q=>xl
      have r1:decide ((k:Int)<(m:Int))=true:=decide_eq_true (by omega)
      have r1':decide (k<m)=true:=decide_eq_true (by omega)
      have i1:(k:Int)<m:=by omega
      have i2:(i:Int)<n:=by omega
      have i3:wrap64 ((i:Int)+1)=((i+1:Nat):Int):=by have:=HL.out;unfold wrap64;omega
      have HX:=zH hxU
      clear hex hdr hkm hmU hkx hkU xo hmi hin hxU
      go_upto_region 8 with (fail)
      go_quiet (fail)
      go_wp2_with fail
      obtain⟨hik,hF,hUi,hU,hUm,htk,hm⟩:=HU.out
      go_roundg (G - 1)
      case measure=>omega
      case rel=>
       refine⟨i+1,U,by first | rfl | go_num | (rw[i3]),by omega,by rw[←hm];exact hF.to (by first | exact (Chg.refl [] W1).drewN _ | exact ((Chg.refl [] W1).drewN _).drewN _),by omega,hU,fun y=>?_⟩
       rw[htk,List.mem_append,List.mem_singleton,hUm y]
       exact⟨fun h=>.inl h,fun h=>h.elim id fun e=>by subst e;exact (hUm y).1 HX.out⟩
     ·have hxU:x∉U:=by
       intro hx
       rw[←List.take_append_drop k U] at hx
       rcases List.mem_append.1 hx with h | h
       ·exact (hex x h).2 rfl
       ·obtain⟨j',hj',e⟩:=List.getElem_of_mem h
        rw[List.length_drop] at hj'
        rw[List.getElem_drop] at e
        have hkU:k<U.length:=by omega
        have h1:=hdr U[k] (by rw[List.drop_eq_getElem_cons hkU];exact List.mem_cons_self)
        have h2:U[k]≤x:=by
         rcases Nat.eq_zero_or_pos j' with h0 | h0
         ·subst h0;rw[←e];exact List.le_refl _
         ·rw[←e];exact List.pairwise_iff_getElem.1 HU.out.2.2.2.1.up k (k+j') hkU (by omega) (by omega)
        exact hQ ⟨hkU,List.le_antisymm h2 h1⟩
      go_upto_region 8 with (fail)
      go_cut [44] from 30 to 44 (fun s wx=>s=.bool false∧∃q,wx=W1.drewN q)
      case first=>
       by_cases h0:k<m
       ·have hkU:k<U.length:=by omega
        have hne:U[k]≠x:=fun e=>hQ ⟨hkU,e⟩
        obtain⟨g,cp,hsv,-,-,-⟩:=HU.out.2.1.own.pos (by omega)
        injection hsv with e1 _ e2
        subst e1 e2
        have xo:W1.cell? ⟨g,k,none⟩=some (.string (str U[k])):=by
         rw[Aq.Own.cellAt HU.out.2.1.own k (by omega)];simp[names,hkU]
        have y0:∀q,(W1.drewN q).cell? ⟨g,k,none⟩=some (.string (str U[k])):=fun q=>xo
        have y1:∀q,(W1.drewN q).cell? ⟨gl,offl+i,none⟩=some (.string (str x)):=fun q=>xl
        have hse:=str_eq U[k] x
        rw[decide_eq_false hne] at hse
        generalize U[k]=z at *
        have r1:decide ((k:Int)<(m:Int))=true:=decide_eq_true (by omega)
        have r1':decide (k<m)=true:=decide_eq_true (by omega)
        have i1:(k:Int)<m:=by omega
        have i2:(i:Int)<n:=by omega
        clear hex hdr hkm hmU hkU xo hmi hin hQ hxU hne h0
        go_quiet (fail)
        go_wp2_with fail
        go_meet
        exact⟨rfl,q2+nq,by first | rfl | exact World.drewN_drewN _ _ _⟩
       ·have r1:decide ((k:Int)<(m:Int))=false:=decide_eq_false (by omega)
        have r1':decide (k<m)=false:=decide_eq_false (by omega)
        clear hex hdr hkm hmU hmi hin hQ hxU h0
        go_quiet (fail)
        go_wp2_with fail
        go_meet
        exact⟨rfl,q2+nq,by first | rfl | exact World.drewN_drewN _ _ _⟩
      case rest=>
      obtain⟨rfl,q3,rfl⟩:=hcut
      have hF:=HU.out.2.1.to ((Chg.refl [] W1).drewN q3)
      have x1:(W1.drewN q3).cell? ⟨gl,offl+i,none⟩=some (.string (str x)):=xl
      generalize W1.drewN q3=W2 at *
      have hins:=upnm_ins HU.out.2.2.2.1 (fun y hy=>(hex y hy).1) hdr hxU
      have hmem:∀y,y∈U.take k++([x]++U.drop k)↔y∈l.take (i+1):=fun y=>by
       obtain⟨hik,hF,hUi,hU,hUm,htk,hm⟩:=HU.out
       have:y∈U↔y∈U.take k∨y∈U.drop k:=by rw[←List.mem_append,List.take_append_drop]
       rw[htk]
       simp only[List.mem_append,List.mem_singleton]
       rw[←hUm y,this]
       constructor
       ·rintro (h | h | h)
        ·exact .inl (.inl h)
        ·exact .inr h
        ·exact .inl (.inr h)
       ·rintro ((h | h) | h)
        ·exact .inl h
        ·exact .inr (.inr h)
        ·exact .inr (.inl h)
      have HI:=zA hins hmem
      clear hex hdr hQ hxU hins hmem hmU
      have i2:(i:Int)<n:=by omega
      have w3:wrap64 ((i:Int)+1)=((i+1:Nat):Int):=by have:=HL.out;unfold wrap64;omega
      rcases hF.own.2 with ⟨hnil,hm0⟩ | ⟨g,cp,cur,hsv,-,hblk,-,-,-⟩
      ·injection hnil with e1 e2 e3
       subst e1 e2 e3
       obtain rfl:k=0:=by omega
       have hU0:U=[]:=List.length_eq_zero_iff.1 HU.out.2.2.2.2.2.2.symm
       subst hU0
       have hF5:∀w5,Chg (Value.slice (some ⟨W2.heap.size,0,none⟩) 1 1).ownBlock.toList (W2.alloc (.cells #[.string (str x)] 9)).drew w5→Fresh w w5 9 1 (.slice none 0 0) 0 []:=fun w5 c5=>
        ⟨Aq.Own.nil _ _ _,(hF.chg.alloc _).drew.trans c5 (fun b hb=>.inr (by simp[Value.ownBlock] at hb;subst hb;exact hF.chg.size)),by simp[Value.ownBlock]⟩
       clear hF hkm hmi hc3
       go_upto_region 9 with (fail)
       go_region_law (first
        | (refine step_app (by rfl) _ _ 33 (by rfl) sl_SU (v:=.slice (some ⟨W2.heap.size,0,none⟩) 1 1) (n:=1) (xs:=[.string (str x)]) (by exact ownOneU (by exact Blk.new W2 _ 9)) (by rfl) (vx:=.slice none 0 0) (m:=0) (news:=[]) (by exact Sees.nil _ _) (by rfl) (by simp) (by omega) (by omega) ?_;intro v5 w5 hO5 c5 n5)
        | (refine step_app (by rfl) _ _ 33 (by rfl) sl_SU (v:=.slice none 0 0) (n:=0) (xs:=[]) (by exact (hF5 w5 c5).own) (by rfl) (vx:=v5) (m:=1+0) (news:=[.string (str x)]++[]) (by exact hO5.sees) (by rfl) (by exact namesU_one1 x []) (by omega) (by omega) ?_;intro v6 w6 hO6 c6 n6))
       all_goals
        have hF6:=(hF5 w5 c5).app hO6 c6 n6
        go_wp2_with fail
        obtain⟨hik,hF,hUi,hU,hUm,htk,hm⟩:=HU.out
        go_roundg (G - 1)
        case measure=>omega
        case rel=>exact⟨i+1,[x],by first | rfl | (rw[w3]),by omega,by first | exact hF6 | exact hF6.to (Chg.refl [] _).drew,by simp,HI.out.1,HI.out.2⟩
      ·injection hsv with e1 _ e2
       subst e1 e2
       have hmU:=HU.out.2.2.2.2.2.2
       have hvs:Aq.Own W2 9 1 (.slice (some ⟨g,0,none⟩) k cap3) k (names (U.take k)):=by
        have h:=hF.own
        rw[←List.take_append_drop k U,namesU_app] at h
        exact ownCutU h (by rw[names_len,List.length_take];omega) hkm
       have hnw:∀b∈(Value.slice (some ⟨g,0,none⟩) k cap3).ownBlock.toList,w.heap.size≤b:=fun b hb=>hF.new b (by simpa[Value.ownBlock] using hb)
       by_cases hck:cap3=k
       ·have hmk:m=k:=by omega
        subst hck
        subst hmk
        have hvd:Sees W2 1 (.slice (some ⟨g,0,none⟩) 0 0) (m - m) (names (U.drop m)):=by
         have e1:U.drop m=[]:=by rw[hmU];exact List.drop_length
         rw[e1,Nat.sub_self];exact Sees.noneU _ _
        clear hmU
        have hF5:∀w5,Chg (Value.slice (some ⟨W2.heap.size,0,none⟩) 1 1).ownBlock.toList (W2.alloc (.cells #[.string (str x)] 9)).drew w5→Fresh w w5 9 1 (.slice (some ⟨g,0,none⟩) m m) m (names (U.take m)):=fun w5 c5=>
         ⟨Aq.Own.chg (w:=(W2.alloc (.cells #[.string (str x)] 9)).drew) (hvs.alloc (.cells #[.string (str x)] 9)) c5 (fun b hb hb'=>by simp[Value.ownBlock] at hb';subst hb';exact Nat.lt_irrefl _ (hvs.lt _ hb)),(hF.chg.alloc _).drew.trans c5 (fun b hb=>.inr (by simp[Value.ownBlock] at hb;subst hb;exact hF.chg.size)),hnw⟩
        have hsd:Sees (W2.alloc (.cells #[.string (str x)] 9)) 1 (.slice (some ⟨g,0,none⟩) 0 0) (m - m) (names (U.drop m)):=hvd.chg0 ((Chg.refl [] W2).alloc _)
        have HHF:=zH hF
        have hb1:m+(1+(m - m))≤8388609:=by omega
        have i1:(m:Int)≤m:=by omega
        have i3:(m:Int)≤m:=by omega
        clear hvs hvd hnw hF hmi hblk
        go_upto_region 9 with (fail)
        go_region_law (first
         | (refine step_app (by rfl) _ _ 33 (by rfl) sl_SU (v:=.slice (some ⟨W2.heap.size,0,none⟩) 1 1) (n:=1) (xs:=[.string (str x)]) (by exact ownOneU (by exact Blk.new W2 _ 9)) (by rfl) (vx:=.slice (some ⟨g,0,none⟩) 0 0) (m:=m - m) (news:=names (U.drop m)) (by exact hsd) (by rfl) (by exact namesU_one _) (by omega) (by omega) ?_;intro v5 w5 hO5 c5 n5)
         | (refine step_app (by rfl) _ _ 33 (by rfl) sl_SU (v:=.slice (some ⟨g,0,none⟩) m m) (n:=m) (xs:=names (U.take m)) (by exact (hF5 w5 c5).own) (by rfl) (vx:=v5) (m:=1+(m - m)) (news:=[.string (str x)]++names (U.drop m)) (by exact hO5.sees) (by rfl) (by exact namesU_one1 x _) (by omega) (by omega) ?_;intro v6 w6 hO6 c6 n6))
        all_goals
         have hF6:=(hF5 w5 c5).app hO6 c6 n6
         go_wp2_with fail
         obtain⟨hik,hF,hUi,hU,hUm,htk,hm⟩:=HU.out
         have hel:(U.take m++([x]++U.drop m)).length=m+(1+(m - m)):=by simp only[List.length_append,List.length_take,List.length_drop,List.length_singleton];omega
         have hes:names (U.take m++([x]++U.drop m))=names (U.take m)++([.string (str x)]++names (U.drop m)):=by simp[names]
         go_roundg (G - 1)
         case measure=>omega
         case rel=>exact⟨i+1,U.take m++([x]++U.drop m),by first | rfl | (rw[w3]),by omega,by rw[hel,hes];first | exact hF6 | exact hF6.to (Chg.refl [] _).drew,by rw[hel];omega,HI.out.1,HI.out.2⟩
       ·have hvd:Sees W2 1 (.slice (some ⟨g,0+k,none⟩) (m - k) (cap3 - k)) (m - k) (names (U.drop k)):=by
         have h:=Sees.dropU hF.own.sees hkm
         have e1:(names U).drop k=names (U.drop k):=by simp[names,List.map_drop]
         rw[e1] at h;exact h
        rw[Nat.zero_add] at hvd
        have hck':(cap3=k)=False:=by simp;exact hck
        clear hmU
        have hF5:∀w5,Chg (Value.slice (some ⟨W2.heap.size,0,none⟩) 1 1).ownBlock.toList (W2.alloc (.cells #[.string (str x)] 9)).drew w5→Fresh w w5 9 1 (.slice (some ⟨g,0,none⟩) k cap3) k (names (U.take k)):=fun w5 c5=>
         ⟨Aq.Own.chg (w:=(W2.alloc (.cells #[.string (str x)] 9)).drew) (hvs.alloc (.cells #[.string (str x)] 9)) c5 (fun b hb hb'=>by simp[Value.ownBlock] at hb';subst hb';exact Nat.lt_irrefl _ (hvs.lt _ hb)),(hF.chg.alloc _).drew.trans c5 (fun b hb=>.inr (by simp[Value.ownBlock] at hb;subst hb;exact hF.chg.size)),hnw⟩
        have hsd:Sees (W2.alloc (.cells #[.string (str x)] 9)) 1 (.slice (some ⟨g,k,none⟩) (m - k) (cap3 - k)) (m - k) (names (U.drop k)):=hvd.chg0 ((Chg.refl [] W2).alloc _)
        have HHF:=zH hF
        have hb1:k+(1+(m - k))≤8388609:=by omega
        have i1:(k:Int)≤m:=by omega
        have i3:(k:Int)≤cap3:=by omega
        clear hvs hvd hnw hF hkm hmi hc3 hblk
        go_upto_region 9 with (fail)
        go_region_law (first
         | (refine step_app (by rfl) _ _ 33 (by rfl) sl_SU (v:=.slice (some ⟨W2.heap.size,0,none⟩) 1 1) (n:=1) (xs:=[.string (str x)]) (by exact ownOneU (by exact Blk.new W2 _ 9)) (by rfl) (vx:=.slice (some ⟨g,k,none⟩) (m - k) (cap3 - k)) (m:=m - k) (news:=names (U.drop k)) (by exact hsd) (by rfl) (by exact namesU_one _) (by omega) (by omega) ?_;intro v5 w5 hO5 c5 n5)
         | (refine step_app (by rfl) _ _ 33 (by rfl) sl_SU (v:=.slice (some ⟨g,0,none⟩) k cap3) (n:=k) (xs:=names (U.take k)) (by exact (hF5 w5 c5).own) (by rfl) (vx:=v5) (m:=1+(m - k)) (news:=[.string (str x)]++names (U.drop k)) (by exact hO5.sees) (by rfl) (by exact namesU_one1 x _) (by omega) (by omega) ?_;intro v6 w6 hO6 c6 n6))
        all_goals
         have hF6:=(hF5 w5 c5).app hO6 c6 n6
         go_wp2_with fail
         obtain⟨hik,hF,hUi,hU,hUm,htk,hm⟩:=HU.out
         have hel:(U.take k++([x]++U.drop k)).length=k+(1+(m - k)):=by simp only[List.length_append,List.length_take,List.length_drop,List.length_singleton];omega
         have hes:names (U.take k++([x]++U.drop k))=names (U.take k)++([.string (str x)]++names (U.drop k)):=by simp[names]
         go_roundg (G - 1)
         case measure=>omega
         case rel=>exact⟨i+1,U.take k++([x]++U.drop k),by first | rfl | (rw[w3]),by omega,by rw[hel,hes];first | exact hF6 | exact hF6.to (Chg.refl [] _).drew,by rw[hel];omega,HI.out.1,HI.out.2⟩
  ·have t1:decide ((i:Int)<(n:Int))=false:=decide_eq_false (by omega)
   have t1':decide (i<n)=false:=decide_eq_false hin
   obtain rfl:i=n:=by omega
   have hlt:l.take i=l:=by rw[←HN.out,List.take_length]
   rw[hlt] at hUm
   have HU:=zB hF hU hUm
   clear hik hF hUi hU hUm hlt
   go_wp2_with fail
   go_ret
   exact⟨_,U,rfl,HU.out.1,HU.out.2.1,HU.out.2.2⟩
end Go.Proofs.YtlidiclfpklliaaGreatDoor
namespace Go.Aq.Fy
open Go.Aq Go.RowKit
theorem do_again {n r m:Nat} (hb:fmtOk n (r:Int) (m:Int)) (hn:n≤4096) (k:Int) (cs:List ChangeD):FInv 2 (doF (F0 n r m k) []).1∧viewF (doF (F0 n r m k) []).1=[]∧FInv 3 (doF (doF (F0 n r m k) []).1 cs).1∧
  ((doF (doF (F0 n r m k) []).1 cs).2=0→(allV [] cs).2=0∧viewF (doF (doF (F0 n r m k) []).1 cs).1=(allV [] cs).1):=by
 have h:=do_law (fmt_inv hb hn k) (by decide) rfl []
 have hv:=(do_nil hb hn k).2
 have h2:=do_law h.1 (by decide) h.2.1 cs
 rw[hv] at h2
 refine⟨h.1,hv,h2.1,fun h0=>?_⟩
 rcases h2.2.2.2.2.2 with ⟨h3,-⟩ | ⟨-,h4,h5,-⟩
 ·exact absurd h0 h3
 ·exact⟨h4,h5⟩
theorem StI.few {objs:List Sec} {i:Nat} {st:View} {ks:List Nm} {ds:List Sec} (h:StI objs i st ks ds) (hi:i≤60) (ho:∀b∈objs,b.length≤20000):
  st.length≤60∧(∀q∈st,q.2.length≤1000000)∧(∀c∈changesS st,c.name.length≤1048576∧c.tonm.length≤1048576∧c.data.length≤1000000)∧(changesS st).length≤1000:=by
 have h1:=h.le
 have h2:=h.sle
 have hq:∀q∈st,q.1.length=64∧q.2.length≤1000000:=fun q hq=>by
  obtain⟨-,m2,m3⟩:=h.mem q hq
  have:=ho _ m3
  exact⟨by rw[m2];exact keyD_len _,by omega⟩
 refine⟨by omega,fun q hm=>(hq q hm).2,fun c hc=>?_,by unfold changesS;rw[List.length_map];omega⟩
 unfold changesS at hc
 obtain⟨p,hp,rfl⟩:=List.mem_map.1 hc
 obtain⟨h3,h4⟩:=hq p hp
 refine⟨?_,by simp,h4⟩
 show (placeS p.1).length≤_
 unfold placeS
 simp only[List.length_cons]
 omega
end Go.Aq.Fy
namespace Go.Proofs.YtlidiclfpklliaaGreatDoor
open Go.RowKit Go.Aq Go.Aq.Fy Go.Maps
theorem UpNm.lt {U:List Nm} (h:UpNm U):U.Pairwise (·<·):=by
 have h2:=h.nd
 rw[List.nodup_iff_pairwise_ne] at h2
 refine (h.up.and h2).imp fun {a b} hab=>?_
 by_cases hl:a<b
 ·exact hl
 ·exact absurd (List.le_antisymm hab.1 (List.not_lt.1 hl)) hab.2
theorem keys_uniq {objs:List Sec} {i:Nat} {st:View} {ks:List Nm} {ds:List Sec} (h:StI objs i st ks ds) {v:View} (hv:v=st.map fun p=>(placeS p.1,p.2)) {U:List Nm} (hU:UpNm U) (hm:∀x,x∈U↔x∈ks):keysS v=U:=by
 obtain⟨h1,h2,-⟩:=h.done hv
 rw[h1]
 exact sorted_same (List.pairwise_map.2 h.asc) hU.lt fun x=>by rw[h2,hm]
end Go.Proofs.YtlidiclfpklliaaGreatDoor
