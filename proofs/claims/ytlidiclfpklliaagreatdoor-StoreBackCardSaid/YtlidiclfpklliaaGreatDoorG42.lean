/- StO OpenS FsOpen0 FsOpenR StP LaidS -/
import Derived.Test.YtlidiclfpklliaaGreatDoorG41
import Derived.ProofKit
import Derived.OpenShut
import Derived.ShutString
import Derived.Deep.Slices
import Derived.Deep.Fields
import Derived.Test.YtlidiclfpklliaaGreatDoorCards
import Derived.Lib.LaidTab
import Derived.PinnedBridge
import Derived.ShapedOpen
set_option linter.unusedSimpArgs false
set_option linter.unusedVariables false
set_option maxHeartbeats 8000000
namespace Go.Proofs.YtlidiclfpklliaaGreatDoor
open Go.RowKit Go.Aq Go.Aq.Fy Go.Maps
inductive PutC (st:View) (b:Sec):View×Nm×Nat→Prop
 | form:kindO b=0→PutC st b (st,[],4)
 | twin:kindO b≠0→PutC st b (st,[],11)
 | ok (st':View):kindO b≠0→(lookK (keyD b) st').isSome=true→(∀(objs:List Sec) (i:Nat) (ks:List Nm) (ds:List Sec),StI objs i st ks ds→b∈objs→StI objs (i+1) st' (ks++[keyD b]) (ds++[b]))→PutC st b (st',keyD b,0)
theorem putC (st:View) (b:Sec):PutC st b (putS [] st b):=by
 rcases putS_cases (v:=[]) (st:=st) (b:=b) with ⟨h1,h2⟩ | ⟨h1,⟨c,-,-,h2⟩ | ⟨h3,h2⟩ | ⟨h3,h2⟩⟩
 ·rw[h2];exact .form h1
 ·rw[h2];exact .twin h1
 ·have e0:(putS [] st b).2.2=0:=by rw[h2]
  have hl:(lookK (keyD b) (putS [] st b).1).isSome=true:=by
   rw[h2]
   unfold thereS at h3
   cases hh:lookK (keyD b) st with
   | some c=>rfl
   | none=>rw[hh] at h3;cases h3
  have hs:∀(objs:List Sec) (i:Nat) (ks:List Nm) (ds:List Sec),StI objs i st ks ds→b∈objs→StI objs (i+1) (putS [] st b).1 (ks++[keyD b]) (ds++[b]):=fun objs i ks ds h hb=>(h.step hb e0).1
  rw[h2] at hl hs ⊢
  exact .ok _ h1 hl hs
 ·have e0:(putS [] st b).2.2=0:=by rw[h2]
  have hs:∀(objs:List Sec) (i:Nat) (ks:List Nm) (ds:List Sec),StI objs i st ks ds→b∈objs→StI objs (i+1) (putS [] st b).1 (ks++[keyD b]) (ds++[b]):=fun objs i ks ds h hb=>(h.step hb e0).1
  rw[h2] at hs ⊢
  exact .ok _ h1 (by rw[look_ins_same];rfl) hs
theorem one_str (s:ByteArray):∀u∈[Value.string s],u.oneCell'=true:=fun u hu=>by rw[List.mem_singleton.1 hu];rfl
theorem one_slc (a:Option Addr) (n c:Nat):∀u∈[Value.slice a n c],u.oneCell'=true:=fun u hu=>by rw[List.mem_singleton.1 hu];rfl
theorem eyes_new {W:World} {v:Value} {e:TypeId} {size n:Nat} {xs:List Value} (h:Aq.Own W e size v n xs):Disj (eyes (.slice (some ⟨W.heap.size,0,none⟩) 1 1)) v.ownBlock.toList:=fun k hk hk'=>by
 simp[eyes] at hk
 have:=h.lt k hk'
 omega
theorem appT {S:List Nat} {w0 w w':World} {v:Value} (c:Chg S w0 w) (h:Chg v.ownBlock.toList w w') (hs:∀k∈v.ownBlock.toList,k∈S):Chg S w0 w':=c.trans h fun k hk=>.inl (hs k hk)
set_option maxRecDepth 100000 in
theorem back18_any (w:World) (hT:Tabs w) (v:Value) (objs:List Sec) (hv:RowsV w [] v objs):
  Calls Tryz.prog 4 #[v] w fun e w'=>e=.returned (.bool true)∧Chg [] w w':=by
 obtain⟨xs,hvs,hvx,-⟩:=hv
 obtain⟨n,hn⟩:∃n,objs.length=n:=⟨_,rfl⟩
 rw[hn] at hvs
 obtain⟨ao,cap,rfl,-⟩:=hvs.shape
 have hf0:=first18_ok w hT
 have hfi:∀w',Chg [] w w'→Calls Tryz.prog 7 #[] w' fun e w''=>e=.returned (.bool true)∧Chg [] w' w'':=fun w' c=>first18_ok w' (hT.chg c)
 have HH:=zD hT hn hvs hvx hfi
 clear hT hn hvs hvx hfi
 go_enter Tryz.func4,Tryz.ntmps4
 go_wp2_with fail
 refine hf0.mono ?_
 rintro e w1 ⟨rfl,c1⟩
 have hmd:=made18_nil w1 300 30 20 (by unfold fmtOk;decide) (by decide)
 have H1:=zH c1
 clear hf0 c1
 go_wp2_with fail
 refine hmd.mono ?_
 rintro e w2 ⟨c2,f,d,l,bf,Sd,F,kk,rfl,hFe,hF,hnw,-⟩
 have hda:=fun cs=>do_again (n:=300) (r:=30) (m:=20) (by unfold fmtOk;decide) (by decide) kk cs
 rw[←hFe] at hda
 have hns:=newStage_ok w2
 have hnw':∀k∈f::l::bf::Sd,w.heap.size≤k:=fun k hk=>Nat.le_trans H1.out.size (hnw k hk)
 have H2:=zC (H1.out.nil c2) hF hda hnw'
 clear hmd c2 hFe hF hda hnw hnw'
 go_wp2_with fail
 refine hns.mono ?_
 rintro e w3 ⟨p,bm,rfl,hS,hp,c3⟩
 have hJ3:BackJ w w2 w3 p bm (.slice none 0 0) (.slice none 0 0) [] [] [] []:=BackJ.start hS hp c3
 have c3w:=H2.out.1.nil c3
 have htx:=texts18_ok w3 (objs.map List.length) (.slice ao n cap) xs (by rw[List.length_map,HH.out.2.1];exact HH.out.2.2.1.chg0 c3w) (fun i hi=>by
  rw[List.length_map] at hi
  obtain⟨y,h1,h2,-⟩:=HH.out.2.2.2.1 i objs[i] (List.getElem?_eq_getElem hi)
  obtain⟨a,c,rfl,-⟩:=h2.shape
  exact⟨a,c,by rw[h1,List.getElem_map]⟩)
 have H3:=zA c3w hJ3
 clear hns hS hp c3 c3w hJ3
 go_wp2_with fail
 refine htx.mono ?_
 rintro e w4 ⟨fw,rfl,hfw,c4⟩
 have c4w:=H3.out.1.nil c4
 have hJ4:=H3.out.2.chg0 c4
 cases fw with
 | false=>
  have hf4:=HH.out.2.2.2.2 w4 c4w
  have H4:=zH c4w
  clear htx hfw c4 c4w hJ4
  go_wp2_with fail
  refine hf4.mono ?_
  rintro e w5 ⟨rfl,c5⟩
  have H5:=zH (H4.out.nil c5)
  clear hf4 c5
  go_wp2_with fail
  go_ret
  exact⟨rfl,H5.out⟩
 | true=>
  obtain⟨hn60,hle⟩:=hfw rfl
  rw[List.length_map,HH.out.2.1] at hn60
  have hob:∀b∈objs,b.length≤20000:=fun b hb=>hle _ (List.mem_map_of_mem hb)
  have H4:=zA hob hJ4
  clear htx hfw hle c4 c4w hob hJ4
  go_wp2_with fail
  go_loopg [5,6,7,8,9] n (fun gk (v5 v6 v7 v8 v9:Value) wr=>∃(i:Nat) (st:View) (ks:List Nm) (ds:List Sec) (ys:List Value) (aok aod:Option Addr) (kn dn ck cd:Nat),v5=.slice aok kn ck∧v6=.slice aod dn cd∧v7=.int .i64 i∧
   Hid (i+gk=n∧kn=ks.length∧dn=ds.length∧BackJ w w2 wr p bm (.slice aok kn ck) (.slice aod dn cd) st ks ds ys∧StI objs i st ks ds))
  case atStart=>exact⟨0,[],[],[],[],none,none,0,0,0,0,rfl,rfl,rfl,Nat.zero_add _,rfl,rfl,H4.out.2,StI.start objs⟩
  case round=>
   obtain⟨i,st,ks,ds,ys,aok,aod,kn,dn,ck,cd,rfl,rfl,rfl,HJ⟩:=hrel
   by_cases hi:i<n
   ·have t0:decide ((i:Int)<(n:Int))=true:=by simp;omega
    have t0':decide (i<n)=true:=by simp;omega
    have hil:i<objs.length:=by rw[HH.out.2.1];exact hi
    obtain⟨b,hb⟩:∃b,objs[i]'hil=b:=⟨_,rfl⟩
    have hbm:b∈objs:=by rw[←hb];exact List.getElem_mem _
    obtain⟨y,hy,hys,-⟩:=HH.out.2.2.2.1 i b (by rw[List.getElem?_eq_getElem hil,hb])
    obtain⟨bn,hbn⟩:∃bn,b.length=bn:=⟨_,rfl⟩
    rw[hbn] at hys
    obtain⟨aoy,cpy,rfl,-⟩:=hys.shape
    have cwr:Chg [] w wr:=H2.out.1.nil HJ.out.2.2.2.1.c
    obtain⟨g1,o1,cp1,e,-,hcell⟩:=HH.out.2.2.1.at1 (by omega)
    cases e
    have z0:=hcell i hi
    rw[hy] at z0
    have HZ:Hid (∀w',Chg [] w w'→w'.cell? ⟨g1,o1+i,none⟩=some (.slice aoy bn cpy)):=fun w' c=>c.cell_some z0 (by simp)
    have z:=HZ.out wr cwr
    have e2:wrap64 ((i:Int)+1)=((i+1:Nat):Int):=by unfold wrap64;omega
    have e2w:=wIq e2
    have hbl:bn≤20000:=by rw[←hbn];exact H4.out.1 b hbm
    have hfew:=HJ.out.2.2.2.2.few (by omega) H4.out.1
    have hkl:ks.length≤60∧ds.length≤60:=⟨by have:=HJ.out.2.2.2.2.le;omega,by have:=HJ.out.2.2.2.2.le;have:=HJ.out.2.2.2.2.len;omega⟩
    have hp:=sput_okX wr (HH.out.1.chg cwr) Sd [] f d l bf F (H2.out.2.1.chg0 HJ.out.2.2.2.1.c) (H2.out.2.2.1 []).1 _ HJ.out.2.2.2.1.tin p bm st HJ.out.2.2.2.1.stg (by have:=hfew.1;omega) (.slice aoy bn cpy) b (by rw[hbn];exact hys.chg0 cwr) (by omega)
    rw[(H2.out.2.2.1 []).2.1] at hp
    have hpc:=putC st b
    obtain⟨R,hR⟩:∃R,putS [] st b=R:=⟨_,rfl⟩
    rw[hR] at hp hpc
    have HB:=zE hbn hbm hys hbl hkl hi
    clear hil hb hbm hy hys hbn hcell hbl hfew hR cwr hkl z0 hn60
    rcases hpc with hk0 | hk0 | ⟨st',hk0,hlk,hst⟩
    ·go_wp2_with fail
     refine hp.mono ?_
     rintro e w5 ⟨rfl,hS5,c5⟩
     have hJ5:=HJ.out.2.2.2.1.put hS5 c5
     have c5w:Chg [] w w5:=H2.out.1.nil hJ5.c
     have z5:=HZ.out w5 c5w
     have hk5:=rkindO_any w5 (.slice aoy bn cpy) b bn HB.out.1 (HB.out.2.2.1.chg0 c5w) (by have:=HB.out.2.2.2.1;omega)
     rw[hk0] at hk5
     have H5:=zH hJ5
     clear hp hS5 c5 hJ5 c5w hk0 z
     go_wp2_with fail
     refine hk5.mono ?_
     rintro e w6 ⟨rfl,c6⟩
     have H6:=zH (H5.out.chg0 c6)
     clear hk5 c6 z5
     go_wp2_with fail
     go_roundg (gk - 1)
     case measure=>have:=HJ.out.1;have:=HB.out.2.2.2.2.2;omega
     case rel=>
      refine⟨i+1,st,ks,ds,ys,aok,aod,kn,dn,ck,cd,rfl,rfl,by first | rfl | rw[e2],?_⟩
      exact⟨by have:=HJ.out.1;have:=HB.out.2.2.2.2.2;omega,HJ.out.2.1,HJ.out.2.2.1,H6.out,HJ.out.2.2.2.2.skip⟩
    ·go_wp2_with fail
     refine hp.mono ?_
     rintro e w5 ⟨rfl,hS5,c5⟩
     have hJ5:=HJ.out.2.2.2.1.put hS5 c5
     have c5w:Chg [] w w5:=H2.out.1.nil hJ5.c
     have z5:=HZ.out w5 c5w
     have hk5:=rkindO_any w5 (.slice aoy bn cpy) b bn HB.out.1 (HB.out.2.2.1.chg0 c5w) (by have:=HB.out.2.2.2.1;omega)
     obtain⟨K,hK⟩:∃K,kindO b=K:=⟨_,rfl⟩
     rw[hK] at hk5 hk0
     have q1:((K:Int) != 0)=true:=by simp;omega
     have q1':(K != 0)=true:=by simp;omega
     clear hK
     have H5:=zH hJ5
     clear hp hS5 c5 hJ5 c5w hk0 z
     go_wp2_with fail
     refine hk5.mono ?_
     rintro e w6 ⟨rfl,c6⟩
     have H6:=zH (H5.out.chg0 c6)
     clear hk5 c6 z5
     go_wp2_with fail
     go_roundg (gk - 1)
     case measure=>have:=HJ.out.1;have:=HB.out.2.2.2.2.2;omega
     case rel=>
      refine⟨i+1,st,ks,ds,ys,aok,aod,kn,dn,ck,cd,rfl,rfl,by first | rfl | rw[e2],?_⟩
      exact⟨by have:=HJ.out.1;have:=HB.out.2.2.2.2.2;omega,HJ.out.2.1,HJ.out.2.2.1,H6.out,HJ.out.2.2.2.2.skip⟩
    ·obtain⟨ky,hky⟩:∃ky,keyD b=ky:=⟨_,rfl⟩
     have hkl64:ky.length=64:=by rw[←hky];exact keyD_len b
     rw[hky] at hp hlk hst
     have HK:=zC hky hkl64 hlk hst
     have q1:((str ky).toList != (str ky).toList)=false:=by simp
     have q1':((str ky).toList==(str ky).toList)=true:=by simp
     clear hk0 hlk hst hky hkl64
     go_wp2_with fail
     refine hp.mono ?_
     rintro e w5 ⟨rfl,hS5,c5⟩
     have hJ5:=HJ.out.2.2.2.1.put hS5 c5
     have c5w:Chg [] w w5:=H2.out.1.nil hJ5.c
     have z5:=HZ.out w5 c5w
     have hk5:Calls Tryz.prog 32 #[.slice aoy bn cpy] w5 (fun e w'=>e=.returned (.string (str ky))∧Chg [] w5 w'):=by
      rw[←HK.out.1];exact refKey_any w5 (.slice aoy bn cpy) bn b (HB.out.2.2.1.chg0 c5w) (by have:=HB.out.2.2.2.1;omega)
     have H5:=zH hJ5
     clear hp hS5 c5 hJ5 c5w z
     go_wp2_with fail
     refine hk5.mono ?_
     rintro e w6 ⟨rfl,c6⟩
     have hJ6:=H5.out.chg0 c6
     have hh6:=shave_ok w6 p bm st' hJ6.stg.stg ky (by rw[HK.out.2.1];decide)
     rw[HK.out.2.2.1] at hh6
     have H6:=zH hJ6
     clear hk5 c6 hJ6 z5
     go_wp2_with fail
     refine hh6.mono ?_
     rintro e w7 ⟨rfl,c7⟩
     have hJ7:=H6.out.chg0 c7
     clear hh6 c7
     go_upto_region 18 with (fail)
     refine wp_region_E ((Value.slice aok kn ck).ownBlock.toList++(Value.slice aod dn cd).ownBlock.toList) (by kernel_rfl) ?_
     have hJE:=hJ7.chg0 ((Chg.refl _ _).drew)
     clear hJ7
     generalize w7.drew=wE at *
     obtain⟨S,hS⟩:∃S,(Value.slice aok kn ck).ownBlock.toList++(Value.slice aod dn cd).ownBlock.toList=S:=⟨_,rfl⟩
     have HSk:Hid (∀k∈(Value.slice aok kn ck).ownBlock.toList,k∈S):=fun k hk=>by rw[←hS];exact List.mem_append_left _ hk
     have HSd:Hid (∀k∈(Value.slice aod dn cd).ownBlock.toList,k∈S):=fun k hk=>by rw[←hS];exact List.mem_append_right _ hk
     have hzS:∀w4,Chg S wE w4→w4.cell? ⟨g1,o1+i,none⟩=some (.slice aoy bn cpy):=fun w4 c4=>HZ.out w4 ((H2.out.1.nil hJE.c).trans c4 (fun k hk=>.inr (by rw[←hS] at hk;exact Nat.le_trans H2.out.1.size (hJE.new k hk))))
     rw[hS]
     have c0:Chg S wE wE:=Chg.refl _ _
     have HKN:=zA HJ.out.2.1 HJ.out.2.2.1
     obtain⟨hkn,hdn⟩:=HKN.out
     subst hkn hdn
     have HJE:=zH hJE
     clear hS hJE
     refine tE 0 (.slice aok ks.length ck) c0 (fun w4 c4=>?_) ?_
     ·go_simp
     try simp only[Act.put,yA,yB,yC,yD,yE,yF]
     refine tE 1 (.string (str ky)) c0 (fun w4 c4=>?_) ?_
     ·go_simp
     try simp only[Act.put,yA,yB,yC,yD,yE,yF]
     refine tE 4 (.slice aod ds.length cd) c0 (fun w4 c4=>?_) ?_
     ·go_simp
     try simp only[Act.put,yA,yB,yC,yD,yE,yF]
     refine tE 5 (.slice (some ⟨g1,o1,none⟩) n cap) c0 (fun w4 c4=>?_) ?_
     ·go_simp
     try simp only[Act.put,yA,yB,yC,yD,yE,yF]
     refine tE 6 (.int .i64 i) c0 (fun w4 c4=>?_) ?_
     ·go_simp
     try simp only[Act.put,yA,yB,yC,yD,yE,yF]
     refine tE 7 (.pointer (some ⟨g1,o1+i,none⟩)) c0 (fun w4 c4=>?_) ?_
     ·have i1:(i:Int)<n:=by have:=HB.out.2.2.2.2.2;omega
      go_simp
     try simp only[Act.put,yA,yB,yC,yD,yE,yF]
     refine tE 8 (.slice aoy bn cpy) c0 (fun w4 c4=>?_) ?_
     ·have z4:=hzS w4 c4
      go_simp
     try simp only[Act.put,yA,yB,yC,yD,yE,yF]
     refine wpAnyE_two 2 9 rfl rfl (by kernel_rfl) (by rfl) (by rfl) ?gA ?gB
     case' gA=>
      go_simp
      have c2:Chg [] wE (wE.alloc (.cells #[.string (str ky)] 9)):=(Chg.refl _ _).alloc _
      have h5:Sees (wE.alloc (.cells #[.string (str ky)] 9)) 1 (.slice (some ⟨wE.heap.size,0,none⟩) 1 1) 1 [.string (str ky)]:=Sees.row (Blk.new wE #[.string (str ky)] 9) (m:=1) rfl
      have hJ4:=zH (HJE.out.chg0 c2)
      have c3:=c0.nil c2
      refine⟨c3,?_⟩
      generalize wE.alloc (.cells #[.string (str ky)] 9)=w1 at *
      generalize wE.heap.size=B6 at *
      try simp only[Act.put,yA,yB,yC,yD,yE,yF]
      refine wpAnyE_two 3 9 rfl rfl (by kernel_rfl) (by rfl) (by rfl) ?gC ?gD
      case' gC=>
       refine wp_app _ _ 33 rfl sl_keys hJ4.out.ok rfl h5 rfl (one_str _) (by have:=HB.out.2.2.2.2.1.1;omega) (by have:=HB.out.2.2.2.2.1.1;omega) ?_
       intro v7 w8 ho9 c10 n11
       have hJ12:=zH (hJ4.out.appK ho9 c10 n11)
       have c13:=appT c3 c10 HSk.out
       refine⟨c13,?_⟩
       obtain⟨ak3,cp3,rfl,-⟩:=ho9.sees.shape
       clear ho9 n11
       try simp only[Act.put,yA,yB,yC,yD,yE,yF]
       refine oE 9 ?_
       go_simp
       have c15:Chg [] w8 (w8.alloc (.cells #[.slice aoy bn cpy] 36)):=(Chg.refl _ _).alloc _
       have h18:Sees (w8.alloc (.cells #[.slice aoy bn cpy] 36)) 1 (.slice (some ⟨w8.heap.size,0,none⟩) 1 1) 1 [.slice aoy bn cpy]:=Sees.row (Blk.new w8 #[.slice aoy bn cpy] 36) (m:=1) rfl
       have dd20:=eyes_new hJ12.out.ok
       have hJ17:=zH (hJ12.out.chg0 c15)
       have c16:=c13.nil c15
       refine⟨c16,?_⟩
       generalize w8.alloc (.cells #[.slice aoy bn cpy] 36)=w14 at *
       generalize w8.heap.size=B19 at *
       try simp only[Act.put,yA,yB,yC,yD,yE,yF]
       have cL:=c16
       have hJL:=hJ17
       have hdL:=h18
      case' gD=>
       go_simp
       have c22:Chg [] w1 (w1.alloc (.cells #[.slice aoy bn cpy] 36)):=(Chg.refl _ _).alloc _
       have h25:Sees (w1.alloc (.cells #[.slice aoy bn cpy] 36)) 1 (.slice (some ⟨w1.heap.size,0,none⟩) 1 1) 1 [.slice aoy bn cpy]:=Sees.row (Blk.new w1 #[.slice aoy bn cpy] 36) (m:=1) rfl
       have h27:=h5.chg0 c22
       have dd28:=eyes_new hJ4.out.ok
       have hJ24:=zH (hJ4.out.chg0 c22)
       have c23:=c3.nil c22
       refine⟨c23,?_⟩
       generalize w1.alloc (.cells #[.slice aoy bn cpy] 36)=w21 at *
       generalize w1.heap.size=B26 at *
       try simp only[Act.put,yA,yB,yC,yD,yE,yF]
       refine oE 3 ?_
       refine wp_app _ _ 33 rfl sl_keys hJ24.out.ok rfl h27 rfl (one_str _) (by have:=HB.out.2.2.2.2.1.1;omega) (by have:=HB.out.2.2.2.2.1.1;omega) ?_
       intro v29 w30 ho31 c32 n33
       have hJ34:=zH (hJ24.out.appK ho31 c32 n33)
       have c35:=appT c23 c32 HSk.out
       have h36:=h25.chg c32 dd28
       refine⟨c35,?_⟩
       obtain⟨ak3,cp3,rfl,-⟩:=ho31.sees.shape
       clear ho31 n33
       try simp only[Act.put,yA,yB,yC,yD,yE,yF]
       have cL:=c35
       have hJL:=hJ34
       have hdL:=h36
     case' gB=>
      go_simp
      have c38:Chg [] wE (wE.alloc (.cells #[.slice aoy bn cpy] 36)):=(Chg.refl _ _).alloc _
      have h41:Sees (wE.alloc (.cells #[.slice aoy bn cpy] 36)) 1 (.slice (some ⟨wE.heap.size,0,none⟩) 1 1) 1 [.slice aoy bn cpy]:=Sees.row (Blk.new wE #[.slice aoy bn cpy] 36) (m:=1) rfl
      have dd43:=eyes_new HJE.out.ok
      have hJ40:=zH (HJE.out.chg0 c38)
      have c39:=c0.nil c38
      refine⟨c39,?_⟩
      generalize wE.alloc (.cells #[.slice aoy bn cpy] 36)=w37 at *
      generalize wE.heap.size=B42 at *
      try simp only[Act.put,yA,yB,yC,yD,yE,yF]
      refine oE 2 ?_
      go_simp
      have c45:Chg [] w37 (w37.alloc (.cells #[.string (str ky)] 9)):=(Chg.refl _ _).alloc _
      have h48:Sees (w37.alloc (.cells #[.string (str ky)] 9)) 1 (.slice (some ⟨w37.heap.size,0,none⟩) 1 1) 1 [.string (str ky)]:=Sees.row (Blk.new w37 #[.string (str ky)] 9) (m:=1) rfl
      have h50:=h41.chg0 c45
      have hJ47:=zH (hJ40.out.chg0 c45)
      have c46:=c39.nil c45
      refine⟨c46,?_⟩
      generalize w37.alloc (.cells #[.string (str ky)] 9)=w44 at *
      generalize w37.heap.size=B49 at *
      try simp only[Act.put,yA,yB,yC,yD,yE,yF]
      refine oE 3 ?_
      refine wp_app _ _ 33 rfl sl_keys hJ47.out.ok rfl h48 rfl (one_str _) (by have:=HB.out.2.2.2.2.1.1;omega) (by have:=HB.out.2.2.2.2.1.1;omega) ?_
      intro v51 w52 ho53 c54 n55
      have hJ56:=zH (hJ47.out.appK ho53 c54 n55)
      have c57:=appT c46 c54 HSk.out
      have h58:=h50.chg c54 dd43
      refine⟨c57,?_⟩
      obtain⟨ak3,cp3,rfl,-⟩:=ho53.sees.shape
      clear ho53 n55
      try simp only[Act.put,yA,yB,yC,yD,yE,yF]
      have cL:=c57
      have hJL:=hJ56
      have hdL:=h58
     all_goals
      refine oE 10 ?_
      refine wp_app _ _ 23 rfl sl_rows hJL.out.od rfl hdL rfl (one_slc _ _ _) (by have:=HB.out.2.2.2.2.1.2;omega) (by have:=HB.out.2.2.2.2.1.2;omega) ?_
      intro v59 w60 ho61 c62 n63
      have hJ64:=zH (hJL.out.appD (b:=b) (y:=.slice aoy bn cpy) (by rw[HB.out.1];exact HB.out.2.2.1) ho61 c62 n63)
      have c65:=appT cL c62 HSd.out
      refine⟨c65,?_⟩
      obtain⟨a66,cp67,rfl,-⟩:=ho61.sees.shape
      clear ho61 n63
      try simp only[Act.put,yA,yB,yC,yD,yE,yF]
      refine tE 11 (.slice ak3 (ks.length+1) cp3) c65 (fun w4 c4=>?_) ?_
      ·go_simp
      try simp only[Act.put,yA,yB,yC,yD,yE,yF]
      refine tE 12 (.slice a66 (ds.length+1) cp67) c65 (fun w4 c4=>?_) ?_
      ·go_simp
      try simp only[Act.put,yA,yB,yC,yD,yE,yF]
      refine wpAnyE_done (by kernel_rfl) ?_ _
      go_wp2_with fail
      go_roundg (gk - 1)
      case measure=>have:=HJ.out.1;have:=HB.out.2.2.2.2.2;omega
      case rel=>
       refine⟨i+1,st',ks++[ky],ds++[b],ys++[.slice aoy bn cpy],ak3,a66,ks.length+1,ds.length+1,cp3,cp67,rfl,rfl,by first | rfl | rw[e2],?_⟩
       exact⟨by have:=HJ.out.1;have:=HB.out.2.2.2.2.2;omega,by rw[List.length_append];rfl,by rw[List.length_append];rfl,hJ64.out,HK.out.2.2.2 objs i ks ds HJ.out.2.2.2.2 HB.out.2.1⟩
   ·have t0:decide ((i:Int)<(n:Int))=false:=by simp;omega
    have t0':decide (i<n)=false:=by simp;omega
    have hin:i≤60:=by have:=HJ.out.1;omega
    have hfew:=HJ.out.2.2.2.2.few hin H4.out.1
    have hch:=schanges_ok wr p bm st HJ.out.2.2.2.1.stg.stg (by have:=hfew.1;omega) hfew.2.1
    have cwr:Chg [] w wr:=H2.out.1.nil HJ.out.2.2.2.1.c
    obtain⟨cs,hcs⟩:∃cs,changesS st=cs:=⟨_,rfl⟩
    rw[hcs] at hch
    have H5:=zE cwr hcs (hcs▸hfew.2.2.1) (hcs▸hfew.2.2.2) (show ks.length≤60 by have:=HJ.out.2.2.2.2.le;omega) hfew.1
    clear hin hfew cwr hcs hi hn60
    go_wp2_with fail
    refine hch.mono ?_
    rintro e w5 ⟨v5,x5,rfl,hs5,hx5,c5⟩
    have c25:=HJ.out.2.2.2.1.c.nil c5
    have hdo:=do_okX w5 Sd [] f d l bf F (H2.out.2.1.chg0 c25) (by simp) (H2.out.2.2.1 []).1 (by decide) cs H5.out.2.2.1 H5.out.2.2.2.1 v5 x5 hs5 hx5
    obtain⟨ao5,cp5,rfl,-⟩:=hs5.shape
    obtain⟨RD,hRD⟩:∃RD,doF F cs=RD:=⟨_,rfl⟩
    have hda:=H2.out.2.2.1 cs
    rw[hRD] at hdo hda
    obtain⟨F2,de⟩:=RD
    have HJ5:=zB (HJ.out.2.2.2.1.chg0 c5) (H5.out.1.nil c5) hda
    obtain⟨cl,hcl⟩:∃cl,cs.length=cl:=⟨_,rfl⟩
    rw[hcl] at hs5 hdo ⊢
    clear hch hs5 hx5 c5 c25 hda hRD hcl
    go_wp2_with fail
    refine hdo.mono ?_
    rintro e w6 ⟨rfl,Sd',bf',hF6,hU6⟩
    have c6w:Chg [] w w6:=HJ5.out.2.1.trans hU6.chg (fun k hk=>.inr (H2.out.2.2.2 k hk))
    have hoff:∀(v:Value),(∀k∈v.ownBlock.toList,w2.heap.size≤k)→Disj v.ownBlock.toList (f::l::bf::Sd):=fun v h k hk hk'=>by have:=H2.out.2.1.lt k hk';have:=h k hk;omega
    have hk6:Sees w6 1 (.slice aok kn ck) kn (names ks):=by have h:=(HJ5.out.1.ok.chg hU6.chg (hoff _ fun k hk=>HJ5.out.1.new k (List.mem_append_left _ hk))).sees;rw[←HJ.out.2.1] at h;exact h
    have hd6:Sees w6 1 (.slice aod dn cd) dn ys:=by have h:=(HJ5.out.1.od.chg hU6.chg (hoff _ fun k hk=>HJ5.out.1.new k (List.mem_append_right _ hk))).sees;rw[←HJ.out.2.2.1] at h;exact h
    by_cases hde:de=0
    ·subst hde
     have hda:=HJ5.out.2.2.2.2.2 rfl
     have hvw:viewF F2=st.map fun p=>(placeS p.1,p.2):=by rw[hda.2,←H5.out.2.1];exact done_view HJ.out.2.2.2.2.asc (by rw[H5.out.2.1];exact hda.1)
     have H6:=zE c6w hF6 hk6 hd6 hvw HJ5.out.2.2.2.2.1
     have hns6:=newStage_ok w6
     clear hdo hF6 hU6 c6w hoff hk6 hd6 hda hvw
     go_wp2_with fail
     refine hns6.mono ?_
     rintro e w7 ⟨p2,bm2,rfl,hS7,hp7,c7⟩
     have hky7:=skeys_ok w7 Sd' [] f d l bf' F2 (H6.out.2.1.chg0 c7) H6.out.2.2.2.2.2
     have H7:=zB c7 hS7 hp7
     clear hns6 hS7 hp7 c7
     go_wp2_with fail
     refine hky7.mono ?_
     rintro e w8 ⟨v8,rfl,hF8⟩
     have c68:Chg [] w6 w8:=H7.out.1.nil hF8.chg
     have hun:=unique_names w8 (.slice aok kn ck) ks (by rw[←HJ.out.2.1];exact H6.out.2.2.1.chg0 c68) (by have:=H5.out.2.2.2.2.1;omega)
     have H8:=zB c68 hF8.own.sees (H7.out.2.1.chg0 hF8.chg)
     obtain⟨ao8,cp8,rfl,-⟩:=hF8.shape
     clear hky7 hF8 c68
     go_wp2_with fail
     refine hun.mono ?_
     rintro e w9 ⟨v9,U,rfl,hF9,hU9,hm9⟩
     have hkU:=keys_uniq HJ.out.2.2.2.2 H6.out.2.2.2.2.1 hU9 hm9
     have c69:Chg [] w6 w9:=H8.out.1.nil hF9.chg
     have ht9:=texts_any w9 (.slice ao8 (keysS (viewF F2)).length cp8) v9 (keysS (viewF F2)) U (keysS (viewF F2)).length U.length rfl rfl (H8.out.2.1.chg0 hF9.chg) hF9.own.sees (by have h1:=(HJ.out.2.2.2.2.done H6.out.2.2.2.2.1).1;rw[h1,List.length_map];have:=H5.out.2.2.2.2.2;omega)
     have ed:decide (keysS (viewF F2)=U)=true:=decide_eq_true hkU
     rw[ed] at ht9
     obtain⟨ao9,cp9,rfl,-⟩:=hF9.shape
     have H9:=zA c69 (H8.out.2.2.chg0 hF9.chg)
     clear hun hF9 hU9 hm9 hkU c69 ed
     generalize (keysS (viewF F2)).length=kl at *
     generalize U.length=ul at *
     go_wp2_with fail
     refine ht9.mono ?_
     rintro e w10 ⟨rfl,c10⟩
     have H10:=zA (H9.out.1.nil c10) (H9.out.2.chg0 c10)
     clear ht9 c10
     go_wp2_with fail
     obtain⟨G1,rfl⟩:∃G,G=gk:=⟨_,rfl⟩
     obtain⟨W1,hW1⟩:∃W,W=wr:=⟨_,rfl⟩
     clear hW1
     go_loopg [11,12,13,14,15] kn (fun gk (v11 v12 v13 v14 v15:Value) wr=>∃(j:Nat),v11=.int .i64 j∧Hid (j+gk=kn∧Chg [] w6 wr∧StgR wr p2 bm2 []))
     case atStart=>exact⟨0,rfl,Nat.zero_add _,H10.out.1,H10.out.2⟩
     case round=>
      obtain⟨j,rfl,HR⟩:=hrel
      have hsk:=H6.out.2.2.1.chg0 HR.out.2.1
      have hsd:=H6.out.2.2.2.1.chg0 HR.out.2.1
      by_cases hj:j<kn
      ·have t2:decide ((j:Int)<(kn:Int))=true:=by simp;omega
       have t2':decide (j<kn)=true:=by simp;omega
       have hdk:dn=kn:=by rw[HJ.out.2.1,HJ.out.2.2.1];exact HJ.out.2.2.2.2.len
       have hjk:j<ks.length:=by rw[←HJ.out.2.1];exact hj
       have hjd:j<ds.length:=by rw[←HJ.out.2.2.1,hdk];exact hj
       obtain⟨k,hk⟩:∃k,ks[j]'hjk=k:=⟨_,rfl⟩
       obtain⟨b,hb⟩:∃b,ds[j]'hjd=b:=⟨_,rfl⟩
       have hk':ks[j]?=some k:=by rw[List.getElem?_eq_getElem hjk,hk]
       have hb':ds[j]?=some b:=by rw[List.getElem?_eq_getElem hjd,hb]
       obtain⟨y,hy,hys⟩:=HJ.out.2.2.2.1.see j b hb'
       obtain⟨bn,hbn⟩:∃bn,b.length=bn:=⟨_,rfl⟩
       rw[hbn] at hys
       obtain⟨aoy,cpy,rfl,-⟩:=hys.shape
       have hdn:=HJ.out.2.2.2.2.done (v:=viewF F2) H6.out.2.2.2.2.1
       obtain⟨hgt,hpt⟩:=hdn.2.2 j k b hk' hb'
       have hlook:=HJ.out.2.2.2.2.look j k b hk' hb'
       have hk64:k.length=64:=by rw[hlook.1];exact keyD_len b
       have hbl:bn≤20000:=by rw[←hbn];exact H4.out.1 b (HJ.out.2.2.2.2.obj b (List.mem_of_getElem? hb'))
       obtain⟨gk1,ok1,cpk1,e,-,hcellk⟩:=H6.out.2.2.1.at1 (by omega)
       cases e
       have zk:=hcellk j hj
       have hnk:(names ks)[j]?=some (.string (str k)):=by simp[names,hk']
       rw[hnk] at zk
       obtain⟨gd1,od1,cpd1,e,-,hcelld⟩:=H6.out.2.2.2.1.at1 (by omega)
       cases e
       have zd:=hcelld j (by omega)
       rw[hy] at zd
       have HZk:Hid (∀w',Chg [] w6 w'→w'.cell? ⟨gk1,ok1+j,none⟩=some (.string (str k))):=fun w' c=>c.cell_some zk (by simp)
       have HZd:Hid (∀w',Chg [] w6 w'→w'.cell? ⟨gd1,od1+j,none⟩=some (.slice aoy bn cpy)):=fun w' c=>c.cell_some zd (by simp)
       have zk1:=HZk.out wr HR.out.2.1
       have i1:(j:Int)<kn:=by omega
       have i2:(j:Int)<dn:=by omega
       have i2':j<dn:=by omega
       have hk60:kn≤60:=by rw[HJ.out.2.1];exact H5.out.2.2.2.2.1
       have e3:wrap64 ((j:Int)+1)=((j+1:Nat):Int):=by unfold wrap64;omega
       have e3w:=wIq e3
       have q1:((str k).toList != (str k).toList)=false:=by simp
       have q1':((str k).toList==(str k).toList)=true:=by simp
       have hg:=sget_ok wr Sd' [] f d l bf' F2 (H6.out.2.1.chg0 HR.out.2.1) H6.out.2.2.2.2.2 k (by omega)
       rw[hgt] at hg
       have HB:=zD hbn hys hbl hpt hj
       clear hk60 hdk hjk hjd hk hb hk' hb' hy hbn hys hdn hgt hpt hlook hk64 hbl hcellk hcelld zk zd hnk hsk hsd hj
       go_wp2_with fail
       refine hg.mono ?_
       rintro e w11 ⟨⟨aog,ng,cpg,rfl,hng,hsg⟩,c11⟩
       have c611:=HR.out.2.1.nil c11
       have zd1:=HZd.out w11 c611
       have hpt:=sput_ok w11 (HH.out.1.chg (H6.out.1.nil c611)) Sd' [] f d l bf' F2 (H6.out.2.1.chg0 c611) H6.out.2.2.2.2.2 p2 bm2 [] (HR.out.2.2.chg0 c11) (by simp) (.slice aoy bn cpy) b (by rw[HB.out.1];exact HB.out.2.1.chg0 (H6.out.1.nil c611)) (by rw[HB.out.1];have:=HB.out.2.2.1;omega)
       rw[HB.out.2.2.2.1] at hpt
       have hfar:=sees_far hsg (HR.out.2.2.chg0 c11).noU8
       have H11:=zB c611 hsg hfar
       clear hg hng hsg hfar c11 c611 zk1
       go_wp2_with fail
       refine hpt.mono ?_
       rintro e w12 ⟨rfl,hS12,c12⟩
       have c612:Chg [] w6 w12:=H11.out.1.trans c12 (fun k hk=>.inr (by rw[List.mem_singleton.1 hk];exact H7.out.2.2.2))
       have zk2:=HZk.out w12 c612
       have zd2:=HZd.out w12 c612
       have hsg:Sees w12 1 (.slice aog ng cpg) ng (Bs b):=H11.out.2.1.chg c12 (fun k hk hk'=>H11.out.2.2 k hk (by rw[List.mem_singleton.1 hk'];simp))
       have hby:=same_any w12 (.slice aog ng cpg) (.slice aoy bn cpy) ng bn b b hsg (HB.out.2.1.chg0 (H6.out.1.nil c612))
       have ed:decide (b=b)=true:=decide_eq_true rfl
       rw[ed] at hby
       have H12:=zA c612 hS12
       clear hpt hS12 c12 c612 zd1 hsg ed
       go_wp2_with fail
       refine hby.mono ?_
       rintro e w13 ⟨rfl,rfl⟩
       clear hby zk2 zd2
       go_wp2_with fail
       go_roundg (gk - 1)
       case measure=>have:=HR.out.1;have:=HB.out.2.2.2.2;omega
       case rel=>exact⟨j+1,by first | rfl | rw[e3],by have:=HR.out.1;have:=HB.out.2.2.2.2;omega,H12.out.1,H12.out.2⟩
      ·have t2:decide ((j:Int)<(kn:Int))=false:=by simp;omega
       have t2':decide (j<kn)=false:=by simp;omega
       have hf11:=HH.out.2.2.2.2 wr (H6.out.1.nil HR.out.2.1)
       clear hsk hsd
       go_wp2_with fail
       refine hf11.mono ?_
       rintro e w11 ⟨rfl,c11⟩
       have hl11:=slen_ok w11 p2 bm2 [] (HR.out.2.2.chg0 c11)
       have H11:=zA (HR.out.2.1.nil c11) (HR.out.2.2.chg0 c11)
       clear hf11 c11
       go_wp2_with fail
       refine hl11.mono ?_
       rintro e w12 ⟨rfl,c12⟩
       have hc12:=schanges_ok w12 p2 bm2 [] (H11.out.2.chg0 c12) (by simp) (by simp)
       have H12:=zH (H11.out.1.nil c12)
       clear hl11 c12
       go_wp2_with fail
       refine hc12.mono ?_
       rintro e w13 ⟨v13,x13,rfl,hs13,-,c13⟩
       obtain⟨ao13,cp13,rfl,-⟩:=hs13.shape
       have el:(changesS []).length=0:=rfl
       rw[el]
       have H13:=zH (H12.out.nil c13)
       clear hc12 hs13 c13 el
       go_wp2_with fail
       go_ret
       exact⟨rfl,H6.out.1.nil H13.out⟩
    ·have q2:((de:Int) != 0)=true:=by simp;omega
     have q2':(de != 0)=true:=by simp;omega
     have hf6:=HH.out.2.2.2.2 w6 c6w
     have H6:=zH c6w
     clear hdo hF6 hU6 c6w hoff hk6 hd6
     go_wp2_with fail
     refine hf6.mono ?_
     rintro e w7 ⟨rfl,c7⟩
     have H7:=zH (H6.out.nil c7)
     clear hf6 c7
     go_wp2_with fail
     go_ret
     exact⟨rfl,H7.out⟩
end Go.Proofs.YtlidiclfpklliaaGreatDoor
namespace Go.Aq
section
open Go.ChangeShapes Go.WideShapes Go.ChangeAt Go.RowKit
open Go.ChangeMaps (open_string shut_string)
theorem flatMap_len {α:Type} (f:α→List Value) (C:Nat) (hf:∀a,(f a).length=C):∀xs:List α,(xs.flatMap f).length=xs.length * C
 | []=>by simp
 | a::xs=>by rw[List.flatMap_cons,List.length_append,hf,flatMap_len f C hf xs,List.length_cons,Nat.add_mul];omega
theorem flatMap_get {α:Type} (f:α→List Value) (C:Nat) (hf:∀a,(f a).length=C) (hC:0<C):∀(xs:List α) (j:Nat),j<xs.length * C→(xs.flatMap f)[j]?=(xs[j / C]?).bind fun a=>(f a)[j % C]?
 | [],j,h=>by simp at h
 | a::xs,j,h=>by
  rw[List.flatMap_cons,List.getElem?_append]
  split
  ·rename_i hlt
   rw[hf] at hlt
   rw[Nat.div_eq_of_lt hlt,Nat.mod_eq_of_lt hlt]
   rfl
  ·rename_i hge
   rw[hf] at hge ⊢
   have hge':C≤j:=by omega
   have hlt:j - C<xs.length * C:=by simp only[List.length_cons,Nat.add_mul] at h;omega
   rw[flatMap_get f C hf hC xs (j - C) hlt]
   have e1:j / C=(j - C) / C+1:=by
    conv=>lhs;rw[show j=(j - C)+C by omega]
    rw[Nat.add_div_right _ hC]
   have e2:j % C=(j - C) % C:=by
    conv=>lhs;rw[show j=(j - C)+C by omega]
    rw[Nat.add_mod_right]
   rw[e1,e2]
   rfl
section
variable {H:Type} {enc:TypeId×Value→H} {P:Program} {W:World} {base:Nat} {t e:TypeId} {v:Value} {d:DataW H} {ps:List MemPlace}
end
end
section
open Go.ChangeShapes Go.WideShapes Go.ChangeAt Go.RowKit
section
variable {H:Type} {enc:TypeId×Value→H} {P:Program} {W:World}
theorem bytes_of_trod {t e:TypeId} {n:Nat} {c:Value} {cs:List Value} {y:DataW H×List MemPlace} (hc1:cs=[c]) (ht:P.underlying t=some (.slice e)) (he:P.underlying e=some (.int .u8)) (hc:P.cellsOf e=1) (h:DataW.trod enc P W 0 (fun _=>true) true n t cs=some y):
  ∃l:List UInt8,Sees W 1 c l.length (Bs l)∧l.length≤9223372036854775807:=by
 subst hc1
 rcases open_ints ht he hc h with ⟨hcs,_⟩ | ⟨x,len0,cap0,zs,hcs,_,hl,hm,hz,_,hcell,hwz⟩
 ·simp only[List.cons.injEq,and_true] at hcs
  subst hcs
  exact⟨[],Sees.nil _ _,Nat.zero_le _⟩
 ·simp only[List.cons.injEq,and_true] at hcs
  subst hcs
  simp only[if_true] at hz
  have hlen:((zs.take len0).map fun z=>UInt8.ofNat z.toNat).length=len0:=by simp;omega
  refine⟨(zs.take len0).map fun z=>UInt8.ofNat z.toNat,?_,by rw[hlen];simp only[maxLen] at hm;omega⟩
  rw[hlen]
  refine⟨by simp[Bs];omega,some x,cap0,rfl,hl,by simp,?_⟩
  intro ad had j u hu
  cases had
  have hj:j<len0:=by
   have:=(List.getElem?_eq_some_iff.1 hu).1
   simp[Bs] at this;omega
  rw[hcell j (by omega)]
  have hjz:j<zs.length:=by omega
  have hb:=bounds_u8 (hwz (zs[j]'hjz) (List.getElem_mem _))
  simp[Bs,Bc,hj,hjz] at hu
  rw[←hu]
  simp[List.getD,hjz]
  omega
theorem open_list_r {t e:TypeId} {v:Value} {d:DataW H} {ps:List MemPlace} {α:Type} [Inhabited α] {n0:Nat} (f:α→List Value) (C:Nat) (R:α→Prop) (ht:P.underlying t=some (.slice e)) (hC:P.cellsOf e=C) (hf:∀a,(f a).length=C) (hC0:0<C)
  (hel:∀(n:Nat) (cs:List Value) (y:DataW H×List MemPlace),cs.length=C→DataW.trod enc P W 0 (fun _=>true) true n e cs=some y→∃a,f a=cs∧R a)
  (h:DataW.trod enc P W 0 (fun _=>true) true n0 t [v]=some (d,ps)):
  ∃xs:List α,Sees W C v xs.length (xs.flatMap f)∧xs.length≤9223372036854775807∧∀x∈xs,R x:=by
 rcases Go.Deep.open_slice ht h with ⟨hcs,hx⟩ | ⟨x,len0,cap0,m,n,D,Pl,hcs,_,hl,hm,hmm,hx,hi⟩
 ·simp at hcs
  subst hcs
  exact⟨[],Sees.nil _ _,Nat.zero_le _,by simp⟩
 ·simp at hcs
  subst hcs
  simp only[if_true] at hmm
  subst hmm
  have hch:∀i,i<len0→∃b:α,(∀j,j<C→W.cell? (x.add (i * C+j))=(f b)[j]?)∧R b:=fun i hil=>by
   obtain⟨cs',h1,h2⟩:=hi i (by omega)
   rw[hC] at h1
   obtain⟨_,hlen,hcell⟩:=World.cells?_some h1
   obtain⟨b,rfl,hR⟩:=hel n cs' _ hlen h2
   exact⟨b,fun j hj=>by rw[←Go.Deep.add_add];exact hcell j hj,hR⟩
  obtain⟨g,hg⟩:=Go.Deep.choose_lt hch
  have hlg:((List.range len0).map g).length=len0:=by simp
  refine⟨(List.range len0).map g,⟨?_,some x,m,by rw[hlg],by rw[hlg];simpa using hl,by simp,?_⟩,by simp only[maxLen] at hm;simp;omega,fun y hy=>?_⟩
  ·exact flatMap_len f C hf _
  ·intro ad had j u hu
   cases had
   have hlenf:((List.map g (List.range len0)).flatMap f).length=len0 * C:=by rw[flatMap_len f C hf];simp
   have hj:j<len0 * C:=by
    have:=(List.getElem?_eq_some_iff.1 hu).1
    omega
   have hq:j / C<len0:=(Nat.div_lt_iff_lt_mul hC0).2 hj
   have hjm:j % C<C:=Nat.mod_lt _ hC0
   have hgc:=(hg (j / C) hq).1 (j % C) hjm
   rw[Nat.mul_comm,Nat.div_add_mod] at hgc
   rw[hgc,←hu]
   have:=flatMap_get f C hf hC0 ((List.range len0).map g) j (by simpa using hj)
   rw[this]
   simp[hq]
  ·obtain⟨i,hi',rfl⟩:=List.mem_map.1 hy
   exact (hg i (List.mem_range.1 hi')).2
end
end
end Go.Aq
namespace Go.Proofs.YtlidiclfpklliaaGreatDoor
section
open Go.RowKit Go.Aq Go.Aq.Fy
open Go.ChangeShapes Go.WideShapes Go.ChangeAt
section
variable {H:Type} {enc:TypeId×Value→H} {W:World} {base:Nat} {v:Value} {d:DataW H} {ps:List MemPlace}
set_option maxRecDepth 100000 in
theorem open_rows (hv:Value.okWide Tryz.prog W .any base 23 v) (h:DataW.Trod enc Tryz.prog W 0 (fun _=>true) true 23 v d ps):∃L,RowsV W [] v L:=by
 obtain⟨ao,len,cap,rfl⟩:=okWide_slice Tryz.underlying23 hv
 obtain⟨fuel,hf⟩:=h
 obtain⟨xs,h1,-,h3⟩:=open_list_r (fun (a:Value×List UInt8)=>[a.1]) 1 (fun a=>Sees W 1 a.1 a.2.length (Bs a.2)) Tryz.underlying23 (by kernel_rfl) (fun _=>rfl) (by decide) (fun n cs y hlen ht=>by
  match cs,hlen with
  | [c],_=>
   obtain⟨l,h1,-⟩:=bytes_of_trod (c:=c) rfl Tryz.underlying36 Tryz.underlying5 (by kernel_rfl) ht
   exact⟨(c,l),rfl,h1⟩) hf
 refine⟨xs.map (·.2),xs.flatMap fun a=>[a.1],by rw[List.length_map];exact h1,fun i b hi=>?_,fun _ _ hh=>by cases hh⟩
 rw[List.getElem?_map] at hi
 obtain⟨x,hx,rfl⟩:=Option.map_eq_some_iff.1 hi
 refine⟨x.1,?_,h3 x (List.mem_of_getElem? hx),fun _ _ hh=>by cases hh⟩
 have e:(xs.flatMap fun a=>[a.1])=xs.map (·.1):=by rw[List.map_eq_flatMap]
 rw[e,List.getElem?_map,hx]
 rfl
end
end
section
open Go.RowKit Go.Aq Go.Aq.Fy
theorem sback_walk (v:Value) (objs:List Sec) {w:World} (h:RowsV w [] v objs) (hT:Tabs w):
  Calls Tryz.prog 4 #[v] w fun e w'=>e=.returned (.bool true)∧Chg [] w w':=back18_any w hT v objs h
end
section
open Go.ChangeShapes Go.WideShapes Go.ChangeAt Go.RowKit Go.Aq Go.Aq.Wd
theorem u8x:U8Extra Tryz.prog Tryz.lays260_ren:=
 ⟨by kernel_rfl,by kernel_rfl,by kernel_rfl,by kernel_rfl,by kernel_rfl,by kernel_rfl,by kernel_rfl⟩
def laidL:List (String×DataW Unit):=[("unicode/utf8.acceptRanges",Rows.laid_unicode_utf8_acceptRanges),("unicode/utf8.first",Rows.laid_unicode_utf8_first)]
theorem tabsS_of {W:World} (h:laidMet Tryz.prog laidL W) (hS:W.ShapedOpen Tryz.prog):Tabs W:=by
 have h1:=Lib.laidMet.reads h (n:= "unicode/utf8.first") (d:=Rows.laid_unicode_utf8_first) (by simp[laidL])
 have h2:=Lib.laidMet.reads h (n:= "unicode/utf8.acceptRanges") (d:=Rows.laid_unicode_utf8_acceptRanges) (by simp[laidL])
 refine⟨?_,?_,trivial⟩
 ·refine utf8Tabs_of_reads Tryz.lays260 u8x ?_ ?_
  ·rw[←Pinned.utf8First_eq];exact h1
  ·have e:Rows.laid_unicode_utf8_acceptRanges=Lib.acceptData:=by kernel_rfl
   rw[←e];exact h2
 ·exact cell_of_shapedOpen_int (zero:=#[.int .i64 0]) (t:=3) hS (of_decide_eq_true (by kernel_rfl)) (by kernel_rfl) rfl (by kernel_rfl) (by kernel_rfl) Tryz.underlying3
def lit1:DataW Unit→Value
 | .lit (.int k z)=>.int k z
 | _=>undef
def flat1:DataW Unit→List Value
 | .agg l=>l.map lit1
 | _=>[]
def flat2:DataW Unit→List Value
 | .agg l=>l.flatMap flat1
 | _=>[]
def setCells (cs:List Value):Obj→Obj
 | .cells _ t fz=>.cells cs.toArray t fz
 | o=>o
noncomputable def laidWorldS (os:Os):World:=
 { World.holding Tryz.prog os ⟨#[],#[],[]⟩ with heap:=((World.holding Tryz.prog os ⟨#[],#[],[]⟩).heap.modify 2 (setCells (flat2 Rows.laid_unicode_utf8_acceptRanges))).modify 1 (setCells (flat1 Rows.laid_unicode_utf8_first)) }
end
end Go.Proofs.YtlidiclfpklliaaGreatDoor
