/- ObK ObH ObI -/
import Derived.Test.YtlidiclfpklliaaGreatDoorG33
set_option linter.unusedSimpArgs false
set_option linter.unusedVariables false
set_option maxHeartbeats 8000000
namespace Go.Aq
open Go.RowKit Go.Aq.Fy
theorem run_appS {P:Program} (w:World) (t u ty e:TypeId) (i:TypeInfo) (ht:P.underlying t=some (.slice e)) (hu:P.underlying u=some .string) (hi:P.info? e=some i) (hz:i.zero=some (.int .u8 0)) (hsize:i.size=1) (hby:i.bytes=1)
  (v:Value) (n:Nat) (xs:List Value) (hown:Own w e 1 v n xs) (s:List UInt8) (hb:n+s.length≤140737488355328):
  ∃v' w',(Builtin.append_ #[t,u] ty #[v,.string (str s)]).run P w=.ok v' w'∧Own w' e 1 v' (n+s.length) (xs++Bs s)∧Chg v.ownBlock.toList w w'∧(∀k∈v'.ownBlock.toList,k∈v.ownBlock.toList∨w.heap.size≤k):=by
 have hsz:=str_size s
 obtain⟨v',w',hr,h2,h3,h4⟩:=Lib.run_append_own_string w 0 t u ty e i ht hu hi hz hsize hby v n xs hown (str s) (by rw[hsz];unfold maxLen;omega) (by rw[hsz];exact hb) (Nat.zero_le _)
 rw[hsz,strCells_str] at h2
 refine⟨v',w',hr,h2,Chg.of_grown h3,?_⟩
 have hxl:xs.length=n:=by simpa using hown.1
 rcases hown.2 with ⟨rfl,rfl⟩ | ⟨g,cap,cur,rfl,hbg,hg,hnc,hcm,hcs,htake⟩
 ·have hx:xs=[]:=List.eq_nil_of_length_eq_zero hxl
  subst hx
  obtain⟨v2,w2,hr2,k2,k3,-⟩:=Lib.run_append_own_string w w.heap.size t u ty e i ht hu hi hz hsize hby (.slice none 0 0) 0 [] (World.ownsRow_nil w _ _ _) (str s) (by rw[hsz];unfold maxLen;omega) (by rw[hsz];exact hb) (Nat.le_refl _)
  rw[hr] at hr2
  injection hr2 with e1 e2
  subst e1 e2
  intro k hk
  right
  rcases k2.2 with ⟨rfl,-⟩ | ⟨g,cap,cs,rfl,k4,-⟩
  ·simp[Value.ownBlock] at hk
  ·simp[Value.ownBlock] at hk;omega
 ·by_cases hroom:n+(str s).size≤cap
  ·have hcs':cur.size=cap:=by simpa using hcs
   have hr2:=Lib.run_append_room_string (P:=P) w t u ty e i ht hu hi hsize g n cap cur hg (str s) hroom (by omega)
   rw[hr] at hr2
   injection hr2 with e1 e2
   subst e1
   intro k hk
   exact .inl hk
  ·have holds:∀j u,xs[j]?=some u→w.cell? ((⟨g,0,none⟩:Addr).add j)=some u:=World.ownsRow.cells hown (g:=g) rfl
   have hr2:=Lib.run_append_grow_string (P:=P) w t u ty e i (.int .u8 0) ht hu hi hz ⟨g,0,none⟩ n cap xs (by rw[hsize];simpa using hxl) holds (str s) (by omega) (by rw[hsz];omega) (by rw[hby];exact growslice_fits (by omega) (by rw[hsz];omega))
   rw[hr] at hr2
   injection hr2 with e1 e2
   subst e1
   intro k hk
   right
   simp[Value.ownBlock] at hk
   omega
theorem wpList_appS {P:Program} {W:World} {ops:Array Oper} {rest:List Oper} {o:Oper} {a:Act} {Q:Exit→Act→World→Prop} (hgd:o.guard=none) (s x:Operand) (t u:TypeId)
  (ho:o.op=.call { callee:=.builtin .append,args:=#[s,x],argTypes:=#[t,u] }) {e:TypeId} (ht:SliceTy P t e (.int .u8 0) 1 1) (hu:P.underlying u=some .string)
  {v:Value} {n:Nat} {xs:List Value} (hown:Own W e 1 v n xs) (hs:a.eval s=v) (l:List UInt8) (hx:a.eval x=.string (str l)) (hb:n+l.length≤140737488355328)
  (h:∀v' W',Own W' e 1 v' (n+l.length) (xs++Bs l)→Chg v.ownBlock.toList W W'→(∀k∈v'.ownBlock.toList,k∈v.ownBlock.toList∨W.heap.size≤k)→wpList P ops Q rest (a.put o.dst v') W'):wpList P ops Q (o::rest) a W:=by
 obtain⟨ht1,ht2,ht3,ht4⟩:=ht
 obtain⟨i,hi,hz0,hz1,hby⟩:=info_parts ht2
 refine wpList_plain hgd fun _ hK=>?_
 obtain⟨v',w',hr,h2,h3,h4⟩:=run_appS (P:=P) W t u o.type e i ht1 hu hi hz0 hz1 hby v n xs hown l hb
 unfold Oper.wp execOp
 simp only[ho,resolve,invoke,builtin,Sem.run_bind,Sem.run_pure,Result.andThen_ok,List.map_toArray,List.map_cons,List.map_nil,hs,hx,hr]
 exact hK _ _ (h v' w' h2 h3 h4)
end Go.Aq
namespace Go.Proofs.YtlidiclfpklliaaGreatDoor
section
open Go.RowKit Go.Aq Go.Aq.Fy
def OwnB (w:World) (v:Value) (b:List UInt8):Prop:=Aq.Own w 5 1 v b.length (Bs b)
def UpdV (w w':World) (v v':Value):Prop:=Upd v.ownBlock.toList v'.ownBlock.toList w w'
theorem OwnB.shape {w:World} {v:Value} {b:List UInt8} (h:OwnB w v b):∃ao cap,v=.slice ao b.length cap:=by
 obtain⟨ao,cap,h1,-,-⟩:=(Aq.Own.sees h).shape
 exact⟨ao,cap,h1⟩
theorem OwnB.app {w:World} {v:Value} {a b:List UInt8} {n:Nat} (h:Aq.Own w 5 1 v (a.length+n) (Bs a++Bs b)) (hn:b.length=n):OwnB w v (a++b):=by
 unfold OwnB
 rw[List.length_append,hn,show Bs (a++b)=Bs a++Bs b by simp[Bs]]
 exact h
theorem OwnB.fb {w0 w w':World} {v v':Value} {b b':List UInt8} (h:FB w0 w v b) (ho:OwnB w' v' b') (hu:UpdV w w' v v'):FB w0 w' v' b':=h.app ho hu.chg hu.new
theorem onumU (w:World) (v:Value) (b:List UInt8) (n wd:Nat) (h:OwnB w v b) (hb:b.length≤1000000000) (h1:1≤wd) (h6:wd≤6) (hn:n<2^(8 * wd)):
  Calls Tryz.prog 376 #[v,.int .i64 n,.int .i64 wd] w fun e w'=>∃v',e=.returned v'∧OwnB w' v' (b++beB n wd)∧UpdV w w' v v':=by
 have hg:=big_ok w n wd h1 h6 hn sl_u8
 have hl:(beB n wd).length=wd:=by unfold beB;rw[List.length_reverse,leB_length]
 obtain⟨ao,cap,rfl⟩:=h.shape
 have HH:=zC h hb hl h6
 clear h hb hl h1 h6 hn
 go_enter Tryz.func376,Tryz.ntmps376
 go_wp2_with fail
 refine hg.mono ?_
 rintro e w1 ⟨g,rfl,ho,c1,hgn⟩
 have hf:Aq.Own w1 5 1 (.slice ao b.length cap) b.length (Bs b):=Aq.Own.chg HH.out.1 c1 (fun _ _=>by simp)
 have hsrc:=ho.sees
 have HC:=zH c1
 have h1s:=one_Bs (beB n wd)
 clear hg c1 hgn ho
 go_wp2_with (first
  | (at_builtin;refine wpList_app rfl _ _ 36 rfl sl_u8 hf rfl hsrc rfl h1s (by have:=HH.out.2.1;have:=HH.out.2.2.2;omega) (by have:=HH.out.2.1;have:=HH.out.2.2.2;omega) ?_;intro v2 w2 ho2 c2 n2)
  | fail)
 obtain⟨ao2,cap2,rfl,-⟩:=ho2.sees.shape
 go_wp2_with fail
 go_ret
 refine⟨_,rfl,OwnB.app ho2 HH.out.2.2.1,HC.out.toS.tr c2,fun k hk=>?_⟩
 rcases n2 k hk with h | h
 ·exact .inl h
 ·exact .inr (Nat.le_trans HC.out.size h)
set_option maxRecDepth 100000 in
theorem okeysU (w:World) (v:Value) (b:List UInt8) (h:OwnB w v b) (hb:b.length≤1000000000) (l:List (List UInt8)) (x:Value) (n:Nat) (hn:l.length=n) (hx:Sees w 1 x n (names l)) (hd:Disj (eyes x) v.ownBlock.toList) (hl:validAll l=true) (hn2:n≤100000):
  Calls Tryz.prog 377 #[v,x] w fun e w'=>∃v',e=.returned v'∧OwnB w' v' (b++rawKs l)∧UpdV w w' v v':=by
 obtain⟨ao,cap,rfl⟩:=h.shape
 obtain⟨xo,xc,rfl,-⟩:=hx.shape
 have HV:=zF h hb hx hn hl hn2 hd
 clear h hb hn hx hl hn2 hd
 go_enter Tryz.func377,Tryz.ntmps377
 go_wp2_with fail
 go_loopg [0,11] n (fun k (v0 vi:Value) wr=>∃(i:Nat),vi=.int .i64 i∧Hid (k=n - i∧i≤n∧OwnB wr v0 (b++rawKs (l.take i))∧(b++rawKs (l.take i)).length≤1000000000+64 * i∧UpdV w wr (.slice ao b.length cap) v0))
 case atStart=>exact⟨0,rfl,by omega,by omega,by simpa[rawKs] using HV.out.1,by simp[rawKs];exact HV.out.2.1,Upd.refl _ _⟩
 case round=>
  obtain⟨i,rfl,HJ⟩:=hrel
  obtain⟨hk,hi,hF,hle,hU⟩:=HJ.out
  obtain⟨a0,q0,rfl⟩:=hF.shape
  by_cases him:i<n
  ·have t1:decide ((i:Int)<(n:Int))=true:=decide_eq_true (by omega)
   have him':i<l.length:=by rw[HV.out.2.2.2.1];exact him
   have hxr:Sees wr 1 (.slice xo n xc) n (names l):=HV.out.2.2.1.chg hU.chg HV.out.2.2.2.2.2.2
   obtain⟨g',off',cap',e1,hle',-,hxc⟩:=hxr.cells (by omega)
   injection e1 with e1 _ e2
   subst e1 e2
   have y0:=hxc i (by omega)
   obtain⟨ki,hki⟩:∃ki,l[i]?=some ki:=⟨_,List.getElem?_eq_getElem him'⟩
   have ex:(names l)[i]?=some (.string (str ki)):=by unfold names;rw[List.getElem?_map,hki];rfl
   rw[ex] at y0
   have hvk:validB ki=true:=by
    have h1:=HV.out.2.2.2.2.1
    unfold validAll at h1
    rw[List.all_eq_true] at h1
    exact h1 _ (List.mem_of_getElem? hki)
   obtain⟨r1,r2,r3⟩:=rawK_valid hvk
   have hkl:ki.length≤1000000:=by rw[←r3,hexL_length];omega
   have hun:=unhex_any wr ki hkl
   have hwi:Hid (wrap64 ((i:Int)+1)=(i:Int)+1):=by have:=HV.out.2.2.2.2.2.1;show _=_;unfold wrap64;omega
   generalize hacc:b++rawKs (l.take i)=acc at *
   have HC:=zC hki r1 r2 hacc
   clear hacc hxc ex him' hki hvk r1 r2 r3 hxr hkl hk hi hle hF hle' hU
   go_wp2_with fail
   refine hun.mono ?_
   intro e w1 hu
   rcases hu with ⟨bs,v1,hbs,rfl,hf1⟩ | ⟨hno,-⟩
   ·have ebs:bs=rawK ki:=by have:=HC.out.2.1;rw[hbs] at this;exact Option.some.inj this
    subst ebs
    have hF1:Aq.Own w1 5 1 (.slice a0 acc.length q0) acc.length (Bs acc):=Aq.Own.chg HJ.out.2.2.1 hf1.chg (fun _ _=>by simp)
    have hsrc:=hf1.own.sees
    have h1s:=one_Bs (rawK ki)
    have HC1:=zH hf1.chg
    clear hf1 hun y0 hbs
    go_wp2_with (first
     | (at_builtin;refine wpList_app rfl _ _ 36 rfl sl_u8 hF1 rfl hsrc rfl h1s (by have:=HJ.out.2.2.2.1;have:=HJ.out.2.1;have:=HV.out.2.2.2.2.2.1;have:=HC.out.2.2.1;omega) (by have:=HJ.out.2.2.2.1;have:=HJ.out.2.1;have:=HV.out.2.2.2.2.2.1;have:=HC.out.2.2.1;omega) ?_;intro v2 w2 ho2 c2 n2)
     | fail)
    obtain⟨ao2,cap2,rfl,-⟩:=ho2.sees.shape
    have HF2:=zB ho2 c2 n2
    clear ho2 c2 n2 hF1 hsrc h1s
    go_wp2_with fail
    go_roundg (gk - 1)
    case measure=>have:=HJ.out.1;omega
    case rel=>
     have hi1:i+1≤n:=him
     have et:b++rawKs (l.take (i+1))=acc++rawK ki:=by rw[rawKs_take HC.out.1,←List.append_assoc,HC.out.2.2.2]
     refine⟨i+1,by rw[hwi.out];rfl,by have:=HJ.out.1;omega,hi1,?_,?_,?_⟩
     ·rw[et]
      exact OwnB.app HF2.out.1 rfl
     ·rw[et,List.length_append,HC.out.2.2.1]
      have:=HJ.out.2.2.2.1
      omega
     ·exact (HJ.out.2.2.2.2.nil HC1.out).trans ⟨HF2.out.2.1,HF2.out.2.2⟩
   ·rw[HC.out.2.1] at hno
    cases hno
  ·have t1:decide ((i:Int)<(n:Int))=false:=decide_eq_false (by omega)
   have HC:=zB hF hi hU
   clear hF hi hk hle HJ hU
   go_wp2_with fail
   go_ret
   refine⟨_,rfl,?_⟩
   have e:l.take i=l:=List.take_of_length_le (by have:=HC.out.2.1;have:=HV.out.2.2.2.1;omega)
   have h:=HC.out.1
   have h3:=HC.out.2.2
   rw[e] at h h3
   rw[e]
   exact⟨h,h3⟩
theorem otextU (w:World) (v:Value) (b:List UInt8) (h:OwnB w v b) (hb:b.length≤1000000000) (s:List UInt8) (hs:s.length<65536):
  Calls Tryz.prog 386 #[v,.string (str s)] w fun e w'=>∃v',e=.returned v'∧OwnB w' v' (b++(beB s.length 2++s))∧UpdV w w' v v':=by
 have hn:=onumU w v b s.length 2 h hb (by decide) (by decide) (by omega)
 obtain⟨ao,cap,rfl⟩:=h.shape
 have hsz:=str_size s
 have HH:=zA hb hs
 clear h hb hs
 go_enter Tryz.func386,Tryz.ntmps386
 go_wp2_with fail
 refine hn.mono ?_
 rintro e w1 ⟨v1,rfl,hF,hU⟩
 have hl:(beB s.length 2).length=2:=by unfold beB;rw[List.length_reverse,leB_length]
 generalize hacc:b++beB s.length 2=acc at *
 have hla:acc.length=b.length+2:=by rw[←hacc,List.length_append,hl]
 have HA:=zB hacc hla hU
 clear hn hacc hl hla hU
 obtain⟨ao1,cap1,rfl⟩:=hF.shape
 unfold OwnB at hF
 go_wp2_with (first
  | (at_builtin;refine wpList_appS rfl _ _ 36 9 rfl sl_u8 Tryz.underlying9 hF rfl s rfl (by have:=HA.out.2.1;have:=HH.out.1;have:=HH.out.2;omega) ?_;intro v2 w2 ho2 c2 n2)
  | fail)
 obtain⟨ao2,cap2,rfl,-⟩:=ho2.sees.shape
 go_wp2_with fail
 go_ret
 refine⟨_,rfl,?_,HA.out.2.2.trans ⟨c2,n2⟩⟩
 rw[←List.append_assoc,HA.out.1]
 exact OwnB.app ho2 rfl
end
section
open Go.RowKit Go.Aq Go.Aq.Fy Go.Maps
set_option maxRecDepth 100000 in
theorem tmay_ok (w:World) (t:TreeD) (v:Value) (n:Nat) (hn:t.keys.length=n) (hv:Sees w 1 v n (names t.keys)) (hb:n≤100000) (hs:∀k∈t.keys,k.length≤1000000):
  Calls Tryz.prog 375 #[treeV t v] w fun e w'=>e=.returned (.bool (mayTree t))∧Chg [] w w':=by
 obtain⟨s,l⟩:=t
 simp only at hn hv hs
 obtain⟨ao,cap,rfl,-⟩:=hv.shape
 obtain⟨K,hK⟩:∃K,w.heap.size=K:=⟨_,rfl⟩
 have hc0:Chg [] w (w.alloc (.cells #[.int .i64 s.w,.int .i64 s.h,.int .i64 s.c,.int .i64 s.d,.slice ao n cap] 271)):=(Chg.refl [] w).alloc _
 have hb0:Blk (w.alloc (.cells #[.int .i64 s.w,.int .i64 s.h,.int .i64 s.c,.int .i64 s.d,.slice ao n cap] 271)) K #[.int .i64 s.w,.int .i64 s.h,.int .i64 s.c,.int .i64 s.d,.slice ao n cap] 271:=Blk.new_at w _ _ hK
 have hgr:=fun w'=>grid_any s w'
 obtain⟨g1,g2⟩:=grid_le s
 obtain⟨hm1,hm2⟩:=mul_nat g1 g2
 obtain⟨m,hm⟩:∃m,((gridD s).1 * (gridD s).2).toNat=m:=⟨_,rfl⟩
 have hm3:(gridD s).1 * (gridD s).2=(m:Int):=by
  rw[←hm,Int.toNat_of_nonneg (Int.mul_nonneg g1.1 g2.1)]
 have hM:wrap64 ((gridD s).1 * (gridD s).2)=(m:Int):=by rw[hm2,hm]
 have eM:mayTree ⟨s,l⟩=(decide (0<(gridD s).1)&&((n:Int)==(m:Int))&&validAll l):=by
  unfold mayTree
  simp only[hn,hm3]
 have hva:=fun w' (c:Chg [] w w')=>valids_ok w' l (.slice ao n cap) n hn (hv.chg c (fun t _ ht'=>by simp at ht')) (by omega) hs
 rw[eM]
 unfold treeV
 unfold shpV at hgr
 clear hn hv hs hm hm1 hm2 hm3 eM hb g1 g2
 obtain⟨x,hx⟩:∃x,(gridD s).1=x:=⟨_,rfl⟩
 obtain⟨y,hy⟩:∃y,(gridD s).2=y:=⟨_,rfl⟩
 simp only[hx,hy] at hgr hM ⊢
 clear hx hy
 have HC0:=zH hc0
 go_enter Tryz.func375,Tryz.ntmps375
 have x0:(w.alloc (.cells #[.int .i64 s.w,.int .i64 s.h,.int .i64 s.c,.int .i64 s.d,.slice ao n cap] 271)).cell? ⟨K,0,none⟩=some (.int .i64 s.w):=hb0.cell 0
 go_wp2_with fail
 have ct:=HC0.out
 generalize w.alloc (.cells #[.int .i64 s.w,.int .i64 s.h,.int .i64 s.c,.int .i64 s.d,.slice ao n cap] 271)=w0 at *
 refine (hgr _).mono ?_
 rintro e w1 ⟨rfl,c1⟩
 have hb1:=hb0.chg0 c1
 have ct1:=ct.nil c1
 have y4:w1.cell? ⟨K,4,none⟩=some (.slice ao n cap):=hb1.cell 4
 clear hgr x0 hb0 ct c1 hc0
 have HT:=zH ct1
 have hva1:=hva w1 ct1
 clear hva ct1 HC0 hb1
 by_cases h1:0<x
 ·have d1:decide (0<x)=true:=decide_eq_true h1
  cases h2:((n:Int)==(m:Int)) with
  | true=>
   have HB:=zH h2
   clear h1
   go_wp2_with fail
   refine hva1.mono ?_
   rintro e w2 ⟨rfl,c2⟩
   clear hva1
   go_wp2_with fail
   go_ret
   exact⟨by simp only[d1,HB.out,Bool.true_and,Bool.false_and,Bool.and_false];rfl,HT.out.nil c2⟩
  | false=>
   have HB:=zH h2
   clear h1 hva1
   go_wp2_with fail
   go_ret
   exact⟨by simp only[d1,HB.out,Bool.true_and,Bool.false_and,Bool.and_false];rfl,HT.out⟩
 ·have d1:decide (0<x)=false:=decide_eq_false h1
  have HB:=zH d1
  clear h1 hva1
  go_wp2_with fail
  go_ret
  exact⟨by simp only[d1,HB.out,Bool.true_and,Bool.false_and,Bool.and_false];rfl,HT.out⟩
set_option maxRecDepth 100000 in
theorem cmay_ok (w:World) (hT:Tabs w) (c:CommD) (v:Value) (n:Nat) (hn:c.pars.length=n) (hv:Sees w 1 v n (names c.pars)) (hb:n≤100000) (hs:∀k∈c.pars,k.length≤1000000) (hl1:c.tree.length≤1000000) (hl2:c.author.length≤1000000) (hl3:c.text.length≤1000000):
  Calls Tryz.prog 385 #[commV c v] w fun e w'=>e=.returned (.bool (mayComm c))∧Chg [] w w':=by
 obtain⟨tr,l,st,au,tx⟩:=c
 simp only at hn hv hs hl1 hl2 hl3
 obtain⟨ao,cap,rfl,-⟩:=hv.shape
 obtain⟨K,hK⟩:∃K,w.heap.size=K:=⟨_,rfl⟩
 have hc0:Chg [] w (w.alloc (.cells #[.string (str tr),.slice ao n cap,.int .i64 st,.string (str au),.string (str tx)] 273)):=(Chg.refl [] w).alloc _
 have hb0:Blk (w.alloc (.cells #[.string (str tr),.slice ao n cap,.int .i64 st,.string (str au),.string (str tx)] 273)) K #[.string (str tr),.slice ao n cap,.int .i64 st,.string (str au),.string (str tx)] 273:=Blk.new_at w _ _ hK
 have hvt:=fun w'=>valid_any w' tr hl1
 have hva:=fun w' (c:Chg [] w w')=>valids_ok w' l (.slice ao n cap) n hn (hv.chg c (fun t _ ht'=>by simp at ht')) (by omega) hs
 unfold commV
 have HN:=zA hn hv
 by_cases h2:n=2
 ·obtain⟨a,b,rfl⟩:∃a b,l=[a,b]:=by
   match l,hn with
   | [],hn=>simp at hn;omega
   | [a],hn=>simp at hn;omega
   | [a,b],_=>exact⟨a,b,rfl⟩
   | a::b::c::t,hn=>simp at hn;omega
  subst h2
  obtain⟨g',off',cap',e1,hle',-,hxc⟩:=hv.cells (by decide)
  injection e1 with e1 _ e2
  subst e1 e2
  have z0:=hc0.cell_some ((hxc 0 (by decide)).trans rfl) (by simp)
  have z1:=hc0.cell_some ((hxc 1 (by decide)).trans rfl) (by simp)
  rw[Nat.add_zero] at z0
  have eM:mayComm ⟨tr,[a,b],st,au,tx⟩=(validB tr&&validAll [a,b]&&!((str a).toList==(str b).toList)&&decide (1≤st)&&decide (st≤1099511627776)&&Wd.nameL au&&Wd.textL tx):=by
   unfold mayComm twins
   have eab:(a==b)=decide (a=b):=by by_cases h:a=b <;> simp[h]
   rw[str_eq]
   simp only[eab,List.length_cons,List.length_nil,Nat.zero_add,Nat.reduceAdd,Nat.le_refl,decide_true,Bool.and_true]
  rw[eM]
  have HC0:=zH hc0
  clear hn hv hb hs hl1 hxc eM
  go_enter Tryz.func385,Tryz.ntmps385
  have x0:(w.alloc (.cells #[.string (str tr),.slice (some ⟨g',off',none⟩) 2 cap,.int .i64 st,.string (str au),.string (str tx)] 273)).cell? ⟨K,0,none⟩=some (.string (str tr)):=hb0.cell 0
  have x1:(w.alloc (.cells #[.string (str tr),.slice (some ⟨g',off',none⟩) 2 cap,.int .i64 st,.string (str au),.string (str tx)] 273)).cell? ⟨K,1,none⟩=some (.slice (some ⟨g',off',none⟩) 2 cap):=hb0.cell 1
  go_wp2_with fail
  go_quiet (fail)
  go_wp2_with fail
  cases q0:((str a).toList==(str b).toList) with
  | true=>
   have Q0:=zH q0
   clear q0
   have ct1:Chg [] w ((w.alloc (.cells #[.string (str tr),.slice (some ⟨g',off',none⟩) 2 cap,.int .i64 st,.string (str au),.string (str tx)] 273)).drewN nq):=HC0.out.drewN nq
   have hb1:=hb0.chg0 ((Chg.refl [] (w.alloc (.cells #[.string (str tr),.slice (some ⟨g',off',none⟩) 2 cap,.int .i64 st,.string (str au),.string (str tx)] 273))).drewN nq)
   clear x0 x1 hb0 hc0
   generalize (w.alloc (.cells #[.string (str tr),.slice (some ⟨g',off',none⟩) 2 cap,.int .i64 st,.string (str au),.string (str tx)] 273)).drewN nq=w1 at *
   refine (hvt _).mono ?_
   rintro e w2 ⟨rfl,c2⟩
   have hb2:=hb1.chg0 c2
   have ct2:=ct1.nil c2
   clear hvt hb1 ct1 c2
   have y21:w2.cell? ⟨K,1,none⟩=some (.slice (some ⟨g',off',none⟩) 2 cap):=hb2.cell 1
   have y22:w2.cell? ⟨K,2,none⟩=some (.int .i64 st):=hb2.cell 2
   have y23:w2.cell? ⟨K,3,none⟩=some (.string (str au)):=hb2.cell 3
   have y24:w2.cell? ⟨K,4,none⟩=some (.string (str tx)):=hb2.cell 4
   have hv2:=hva w2 ct2
   have hna:=fun w' c=>name_any au w' (hT.chg (w':=w') c) (by omega)
   have htx:=fun w' c=>text_any tx w' (hT.chg (w':=w') c) (by omega)
   clear hva hT hl2 hl3
   have HB2:=zA hb2 ct2
   clear hb2 ct2
   cases q1:validB tr with
   | false=>
    have Q1:=zH q1
    clear q1 hv2 hna htx
    go_wp2_with fail
    go_ret
    exact⟨by simp only[Q0.out,Q1.out,Bool.not_true,Bool.not_false,Bool.true_and,Bool.false_and,Bool.and_false,Bool.and_true];rfl,HB2.out.2⟩
   | true=>
    have Q1:=zH q1
    clear q1
    go_wp2_with fail
    refine hv2.mono ?_
    rintro e w3 ⟨rfl,c3⟩
    have hb3:=HB2.out.1.chg0 c3
    have ct3:=HB2.out.2.nil c3
    clear hv2 y21 y22 y23 y24 c3
    have y31:w3.cell? ⟨K,1,none⟩=some (.slice (some ⟨g',off',none⟩) 2 cap):=hb3.cell 1
    have y32:w3.cell? ⟨K,2,none⟩=some (.int .i64 st):=hb3.cell 2
    have y33:w3.cell? ⟨K,3,none⟩=some (.string (str au)):=hb3.cell 3
    have y34:w3.cell? ⟨K,4,none⟩=some (.string (str tx)):=hb3.cell 4
    have hn3:=hna w3 ct3
    have HB3:=zA hb3 ct3
    clear hna hb3 ct3
    cases q3:validAll [a,b] with
    | false=>
     have Q3:=zH q3
     clear q3 hn3 htx
     go_wp2_with fail
     go_ret
     exact⟨by simp only[Q0.out,Q1.out,Q3.out,Bool.not_true,Bool.not_false,Bool.true_and,Bool.false_and,Bool.and_false,Bool.and_true];rfl,HB3.out.2⟩
    | true=>
     have Q3:=zH q3
     clear q3
     clear hn3 htx
     go_wp2_with fail
     go_ret
     exact⟨by simp only[Q0.out,Q1.out,Q3.out,Bool.not_true,Bool.not_false,Bool.true_and,Bool.false_and,Bool.and_false,Bool.and_true];rfl,HB3.out.2⟩
  | false=>
   have Q0:=zH q0
   clear q0
   have ct1:Chg [] w ((w.alloc (.cells #[.string (str tr),.slice (some ⟨g',off',none⟩) 2 cap,.int .i64 st,.string (str au),.string (str tx)] 273)).drewN nq):=HC0.out.drewN nq
   have hb1:=hb0.chg0 ((Chg.refl [] (w.alloc (.cells #[.string (str tr),.slice (some ⟨g',off',none⟩) 2 cap,.int .i64 st,.string (str au),.string (str tx)] 273))).drewN nq)
   clear x0 x1 hb0 hc0
   generalize (w.alloc (.cells #[.string (str tr),.slice (some ⟨g',off',none⟩) 2 cap,.int .i64 st,.string (str au),.string (str tx)] 273)).drewN nq=w1 at *
   refine (hvt _).mono ?_
   rintro e w2 ⟨rfl,c2⟩
   have hb2:=hb1.chg0 c2
   have ct2:=ct1.nil c2
   clear hvt hb1 ct1 c2
   have y21:w2.cell? ⟨K,1,none⟩=some (.slice (some ⟨g',off',none⟩) 2 cap):=hb2.cell 1
   have y22:w2.cell? ⟨K,2,none⟩=some (.int .i64 st):=hb2.cell 2
   have y23:w2.cell? ⟨K,3,none⟩=some (.string (str au)):=hb2.cell 3
   have y24:w2.cell? ⟨K,4,none⟩=some (.string (str tx)):=hb2.cell 4
   have hv2:=hva w2 ct2
   have hna:=fun w' c=>name_any au w' (hT.chg (w':=w') c) (by omega)
   have htx:=fun w' c=>text_any tx w' (hT.chg (w':=w') c) (by omega)
   clear hva hT hl2 hl3
   have HB2:=zA hb2 ct2
   clear hb2 ct2
   cases q1:validB tr with
   | false=>
    have Q1:=zH q1
    clear q1 hv2 hna htx
    go_wp2_with fail
    go_ret
    exact⟨by simp only[Q0.out,Q1.out,Bool.not_true,Bool.not_false,Bool.true_and,Bool.false_and,Bool.and_false,Bool.and_true];rfl,HB2.out.2⟩
   | true=>
    have Q1:=zH q1
    clear q1
    go_wp2_with fail
    refine hv2.mono ?_
    rintro e w3 ⟨rfl,c3⟩
    have hb3:=HB2.out.1.chg0 c3
    have ct3:=HB2.out.2.nil c3
    clear hv2 y21 y22 y23 y24 c3
    have y31:w3.cell? ⟨K,1,none⟩=some (.slice (some ⟨g',off',none⟩) 2 cap):=hb3.cell 1
    have y32:w3.cell? ⟨K,2,none⟩=some (.int .i64 st):=hb3.cell 2
    have y33:w3.cell? ⟨K,3,none⟩=some (.string (str au)):=hb3.cell 3
    have y34:w3.cell? ⟨K,4,none⟩=some (.string (str tx)):=hb3.cell 4
    have hn3:=hna w3 ct3
    have HB3:=zA hb3 ct3
    clear hna hb3 ct3
    cases q3:validAll [a,b] with
    | false=>
     have Q3:=zH q3
     clear q3 hn3 htx
     go_wp2_with fail
     go_ret
     exact⟨by simp only[Q0.out,Q1.out,Q3.out,Bool.not_true,Bool.not_false,Bool.true_and,Bool.false_and,Bool.and_false,Bool.and_true];rfl,HB3.out.2⟩
    | true=>
     have Q3:=zH q3
     clear q3
     cases q4:decide (1≤st) with
     | false=>
      have Q4:=zH q4
      clear hn3 htx
      go_wp2_with fail
      go_ret
      exact⟨by simp only[Q0.out,Q1.out,Q3.out,Q4.out,Bool.not_true,Bool.not_false,Bool.true_and,Bool.false_and,Bool.and_false,Bool.and_true];rfl,HB3.out.2⟩
     | true=>
      have Q4:=zH q4
      cases q5:decide (st≤1099511627776) with
      | false=>
       have Q5:=zH q5
       clear hn3 htx
       go_wp2_with fail
       go_ret
       exact⟨by simp only[Q0.out,Q1.out,Q3.out,Q4.out,Q5.out,Bool.not_true,Bool.not_false,Bool.true_and,Bool.false_and,Bool.and_false,Bool.and_true];rfl,HB3.out.2⟩
      | true=>
       have Q5:=zH q5
       go_wp2_with fail
       refine hn3.mono ?_
       rintro e w4 ⟨rfl,c4⟩
       have hb4:=HB3.out.1.chg0 c4
       have ct4:=HB3.out.2.nil c4
       clear hn3 y31 y32 y33 y34 c4 q4 q5
       have y41:w4.cell? ⟨K,1,none⟩=some (.slice (some ⟨g',off',none⟩) 2 cap):=hb4.cell 1
       have y42:w4.cell? ⟨K,2,none⟩=some (.int .i64 st):=hb4.cell 2
       have y43:w4.cell? ⟨K,3,none⟩=some (.string (str au)):=hb4.cell 3
       have y44:w4.cell? ⟨K,4,none⟩=some (.string (str tx)):=hb4.cell 4
       have ht4:=htx w4 ct4
       have HB4:=zH ct4
       clear htx hb4 ct4
       cases q6:Wd.nameL au with
       | false=>
        have Q6:=zH q6
        clear q6 ht4
        go_wp2_with fail
        go_ret
        exact⟨by simp only[Q0.out,Q1.out,Q3.out,Q4.out,Q5.out,Q6.out,Bool.not_true,Bool.not_false,Bool.true_and,Bool.false_and,Bool.and_false,Bool.and_true];rfl,HB4.out⟩
       | true=>
        have Q6:=zH q6
        clear q6
        go_wp2_with fail
        refine ht4.mono ?_
        rintro e w5 ⟨rfl,c5⟩
        clear ht4
        go_wp2_with fail
        go_ret
        exact⟨by simp only[Q0.out,Q1.out,Q3.out,Q4.out,Q5.out,Q6.out,Bool.not_true,Bool.not_false,Bool.true_and,Bool.false_and,Bool.and_false,Bool.and_true];rfl,HB4.out.nil c5⟩
 ·have tw:twins l=false:=by
   unfold twins
   split
   ·rename_i a b;simp at hn;omega
   ·rfl
  have d2:((n:Int)==2)=false:=by simp;omega
  have eM:mayComm ⟨tr,l,st,au,tx⟩=(validB tr&&decide (n≤2)&&validAll l&&true&&decide (1≤st)&&decide (st≤1099511627776)&&Wd.nameL au&&Wd.textL tx):=by
   unfold mayComm
   simp only[hn,tw,Bool.not_false]
  rw[eM]
  clear hn hv hb hs hl1 eM tw h2
  have HC0:=zH hc0
  go_enter Tryz.func385,Tryz.ntmps385
  have x0:(w.alloc (.cells #[.string (str tr),.slice ao n cap,.int .i64 st,.string (str au),.string (str tx)] 273)).cell? ⟨K,0,none⟩=some (.string (str tr)):=hb0.cell 0
  have x1:(w.alloc (.cells #[.string (str tr),.slice ao n cap,.int .i64 st,.string (str au),.string (str tx)] 273)).cell? ⟨K,1,none⟩=some (.slice ao n cap):=hb0.cell 1
  go_wp2_with fail
  go_quiet (fail)
  go_wp2_with fail
  have ct1:Chg [] w ((w.alloc (.cells #[.string (str tr),.slice ao n cap,.int .i64 st,.string (str au),.string (str tx)] 273)).drewN nq):=HC0.out.drewN nq
  have hb1:=hb0.chg0 ((Chg.refl [] (w.alloc (.cells #[.string (str tr),.slice ao n cap,.int .i64 st,.string (str au),.string (str tx)] 273))).drewN nq)
  clear x0 x1 hb0 hc0
  generalize (w.alloc (.cells #[.string (str tr),.slice ao n cap,.int .i64 st,.string (str au),.string (str tx)] 273)).drewN nq=w1 at *
  refine (hvt _).mono ?_
  rintro e w2 ⟨rfl,c2⟩
  have hb2:=hb1.chg0 c2
  have ct2:=ct1.nil c2
  clear hvt hb1 ct1 c2
  have y21:w2.cell? ⟨K,1,none⟩=some (.slice ao n cap):=hb2.cell 1
  have y22:w2.cell? ⟨K,2,none⟩=some (.int .i64 st):=hb2.cell 2
  have y23:w2.cell? ⟨K,3,none⟩=some (.string (str au)):=hb2.cell 3
  have y24:w2.cell? ⟨K,4,none⟩=some (.string (str tx)):=hb2.cell 4
  have hv2:=hva w2 ct2
  have hna:=fun w' c=>name_any au w' (hT.chg (w':=w') c) (by omega)
  have htx:=fun w' c=>text_any tx w' (hT.chg (w':=w') c) (by omega)
  clear hva hT hl2 hl3
  have HB2:=zA hb2 ct2
  clear hb2 ct2
  cases q1:validB tr with
  | false=>
   have Q1:=zH q1
   clear q1 hv2 hna htx
   go_wp2_with fail
   go_ret
   exact⟨by simp only[Q1.out,Bool.not_true,Bool.not_false,Bool.true_and,Bool.false_and,Bool.and_false,Bool.and_true];rfl,HB2.out.2⟩
  | true=>
   have Q1:=zH q1
   clear q1
   cases q2:decide (n≤2) with
   | false=>
    have Q2:=zH q2
    have d3:decide ((n:Int)≤2)=false:=by have:=of_decide_eq_false q2;simp;omega
    clear hv2 hna htx
    go_wp2_with fail
    go_ret
    exact⟨by simp only[Q1.out,Q2.out,Bool.not_true,Bool.not_false,Bool.true_and,Bool.false_and,Bool.and_false,Bool.and_true];rfl,HB2.out.2⟩
   | true=>
    have Q2:=zH q2
    have d3:decide ((n:Int)≤2)=true:=by have:=of_decide_eq_true q2;simp;omega
    go_wp2_with fail
    refine hv2.mono ?_
    rintro e w3 ⟨rfl,c3⟩
    have hb3:=HB2.out.1.chg0 c3
    have ct3:=HB2.out.2.nil c3
    clear hv2 y21 y22 y23 y24 c3 d3 q2
    have y31:w3.cell? ⟨K,1,none⟩=some (.slice ao n cap):=hb3.cell 1
    have y32:w3.cell? ⟨K,2,none⟩=some (.int .i64 st):=hb3.cell 2
    have y33:w3.cell? ⟨K,3,none⟩=some (.string (str au)):=hb3.cell 3
    have y34:w3.cell? ⟨K,4,none⟩=some (.string (str tx)):=hb3.cell 4
    have hn3:=hna w3 ct3
    have HB3:=zA hb3 ct3
    clear hna hb3 ct3
    cases q3:validAll l with
    | false=>
     have Q3:=zH q3
     clear q3 hn3 htx
     go_wp2_with fail
     go_ret
     exact⟨by simp only[Q1.out,Q2.out,Q3.out,Bool.not_true,Bool.not_false,Bool.true_and,Bool.false_and,Bool.and_false,Bool.and_true];rfl,HB3.out.2⟩
    | true=>
     have Q3:=zH q3
     clear q3
     cases q4:decide (1≤st) with
     | false=>
      have Q4:=zH q4
      clear hn3 htx
      go_wp2_with fail
      go_ret
      exact⟨by simp only[Q1.out,Q2.out,Q3.out,Q4.out,Bool.not_true,Bool.not_false,Bool.true_and,Bool.false_and,Bool.and_false,Bool.and_true];rfl,HB3.out.2⟩
     | true=>
      have Q4:=zH q4
      cases q5:decide (st≤1099511627776) with
      | false=>
       have Q5:=zH q5
       clear hn3 htx
       go_wp2_with fail
       go_ret
       exact⟨by simp only[Q1.out,Q2.out,Q3.out,Q4.out,Q5.out,Bool.not_true,Bool.not_false,Bool.true_and,Bool.false_and,Bool.and_false,Bool.and_true];rfl,HB3.out.2⟩
      | true=>
       have Q5:=zH q5
       go_wp2_with fail
       refine hn3.mono ?_
       rintro e w4 ⟨rfl,c4⟩
       have hb4:=HB3.out.1.chg0 c4
       have ct4:=HB3.out.2.nil c4
       clear hn3 y31 y32 y33 y34 c4 q4 q5
       have y41:w4.cell? ⟨K,1,none⟩=some (.slice ao n cap):=hb4.cell 1
       have y42:w4.cell? ⟨K,2,none⟩=some (.int .i64 st):=hb4.cell 2
       have y43:w4.cell? ⟨K,3,none⟩=some (.string (str au)):=hb4.cell 3
       have y44:w4.cell? ⟨K,4,none⟩=some (.string (str tx)):=hb4.cell 4
       have ht4:=htx w4 ct4
       have HB4:=zH ct4
       clear htx hb4 ct4
       cases q6:Wd.nameL au with
       | false=>
        have Q6:=zH q6
        clear q6 ht4
        go_wp2_with fail
        go_ret
        exact⟨by simp only[Q1.out,Q2.out,Q3.out,Q4.out,Q5.out,Q6.out,Bool.not_true,Bool.not_false,Bool.true_and,Bool.false_and,Bool.and_false,Bool.and_true];rfl,HB4.out⟩
       | true=>
        have Q6:=zH q6
        clear q6
        go_wp2_with fail
        refine ht4.mono ?_
        rintro e w5 ⟨rfl,c5⟩
        clear ht4
        go_wp2_with fail
        go_ret
        exact⟨by simp only[Q1.out,Q2.out,Q3.out,Q4.out,Q5.out,Q6.out,Bool.not_true,Bool.not_false,Bool.true_and,Bool.false_and,Bool.and_false,Bool.and_true];rfl,HB4.out.nil c5⟩
end
end Go.Proofs.YtlidiclfpklliaaGreatDoor
