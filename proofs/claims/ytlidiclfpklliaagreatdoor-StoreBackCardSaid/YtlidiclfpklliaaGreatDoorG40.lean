/- OrG StF StG StL StH StM -/
import Derived.Test.YtlidiclfpklliaaGreatDoorOrF
import Derived.Test.YtlidiclfpklliaaGreatDoorG33
set_option linter.unusedSimpArgs false
set_option linter.unusedVariables false
set_option maxHeartbeats 4000000
namespace Go.Proofs.YtlidiclfpklliaaGreatDoor
section
open Go.RowKit Go.Aq Go.Aq.Fy
theorem kind_cases (b:List UInt8):kindO b=if refTile b=true then 1 else if refTree b=true then 2 else if kindO b=3 then 3 else 0:=by
 by_cases h1:refTile b=true
 ·rw[if_pos h1];exact (tile_iff b).2 h1
 ·rw[if_neg h1]
  by_cases h2:refTree b=true
  ·rw[if_pos h2];exact (tree_iff b).2 h2
  ·rw[if_neg h2]
   by_cases h3:kindO b=3
   ·rw[if_pos h3];exact h3
   ·rw[if_neg h3]
    have n1:kindO b≠1:=fun e=>h1 ((tile_iff b).1 e)
    have n2:kindO b≠2:=fun e=>h2 ((tree_iff b).1 e)
    have hk:∀o:ObjD,o.kind=1∨o.kind=2∨o.kind=3:=fun o=>by cases o <;> simp[ObjD.kind]
    unfold kindO at *
    cases hp:parseO b with
    | none=>rfl
    | some o=>
     rw[hp] at n1 n2 h3
     simp only at n1 n2 h3
     rcases hk o with h | h | h
     ·exact absurd h n1
     ·exact absurd h n2
     ·exact absurd h h3
set_option maxRecDepth 100000 in
theorem rkindO_any (w:World) (v:Value) (b:List UInt8) (n:Nat) (hn:b.length=n) (hv:Sees w 1 v n (Bs b)) (hb:n≤1000000):
  Calls Tryz.prog 31 #[v] w fun e w'=>e=.returned (.int .i64 (kindO b:Nat))∧Chg [] w w':=by
 have HK:Hid (kindO b=if refTile b=true then 1 else if refTree b=true then 2 else if kindO b=3 then 3 else 0):=kind_cases b
 have h3i:Hid (kindO b=3↔refComm b):=comm_iff b
 obtain⟨R,hR⟩:∃R,kindO b=R:=⟨_,rfl⟩
 rw[hR]
 have HR:=zH hR
 clear hR
 have h1:=fun w' (c:Chg [] w w')=>asTile_any w' v b n hn (hv.chg0 c) hb
 have h2:=fun w' (c:Chg [] w w')=>asTree_any w' v b n hn (hv.chg0 c) hb
 have h3:=fun w' (c:Chg [] w w')=>asComm_any w' v b n hn (hv.chg0 c) hb
 obtain⟨ao,cap,rfl,-⟩:=hv.shape
 have hk1:=h1 w (Chg.refl _ _)
 have H2:=zH h2
 have H3:=zH h3
 clear hv hn hb h1 h2 h3
 go_enter Tryz.func31,Tryz.ntmps31
 go_wp2_with fail
 refine hk1.mono ?_
 rintro e w1 ⟨⟨v1,rfl,s,pa,pn,pc,rfl,-⟩,c1⟩
 have c1b:=c1.alloc (.cells #[.int .i64 s.w,.int .i64 s.h,.int .i64 s.c,.int .i64 s.d,.slice pa pn pc] 147)
 have hk2:=H2.out _ c1b
 have HC1:=zH c1b
 unfold rasV
 clear hk1 c1 c1b
 go_wp2_with fail
 generalize w1.alloc (.cells #[.int .i64 s.w,.int .i64 s.h,.int .i64 s.c,.int .i64 s.d,.slice pa pn pc] 147)=w2 at *
 refine hk2.mono ?_
 rintro e w3 ⟨⟨v2,rfl,t,ka,kn,kc,rfl,-⟩,c3⟩
 have c3b:=(HC1.out.nil c3).alloc (.cells #[.int .i64 t.shp.w,.int .i64 t.shp.h,.int .i64 t.shp.c,.int .i64 t.shp.d,.slice ka kn kc] 151)
 have hk3:=H3.out _ c3b
 have HC3:=zH c3b
 unfold treeV
 clear hk2 c3 c3b
 go_wp2_with fail
 generalize w3.alloc (.cells #[.int .i64 t.shp.w,.int .i64 t.shp.h,.int .i64 t.shp.c,.int .i64 t.shp.d,.slice ka kn kc] 151)=w4 at *
 refine hk3.mono ?_
 rintro e w5 ⟨⟨v3,ok,rfl,hok,c,ca,cn,cc,rfl,-⟩,c5⟩
 have HC5:=zH ((HC3.out.nil c5).alloc (.cells #[.string (str c.tree),.slice ca cn cc,.int .i64 c.stamp,.string (str c.author),.string (str c.text)] 155))
 have HOK:=zH hok
 unfold commV
 clear hk3 c5 hok
 cases q1:refTile b with
 | true=>
  have e:R=1:=by rw[←HR.out,HK.out,if_pos q1]
  have HE:=zH e
  clear e
  go_wp2_with fail
  go_ret
  exact⟨by rw[HE.out];rfl,HC5.out⟩
 | false=>
  cases q2:refTree b with
  | true=>
   have e:R=2:=by rw[←HR.out,HK.out,if_neg (by rw[q1];decide),if_pos q2]
   have HE:=zH e
   clear e
   go_wp2_with fail
   go_ret
   exact⟨by rw[HE.out];rfl,HC5.out⟩
  | false=>
   cases ok with
   | true=>
    have e:R=3:=by rw[←HR.out];exact h3i.out.2 (HOK.out.1 rfl)
    have HE:=zH e
    clear e
    go_wp2_with fail
    go_ret
    exact⟨by rw[HE.out];rfl,HC5.out⟩
   | false=>
    have e:R=0:=by
     rw[←HR.out,HK.out,if_neg (by rw[q1];decide),if_neg (by rw[q2];decide),if_neg]
     intro h
     have:=HOK.out.2 (h3i.out.1 h)
     cases this
    have HE:=zH e
    clear e
    go_wp2_with fail
    go_ret
    exact⟨by rw[HE.out];rfl,HC5.out⟩
end
section
open Go.RowKit Go.Aq Go.Aq.Fy Go.Maps
def MadeS (w:World) (n r m:Nat) (cs:List ChangeD) (e:Ending) (w':World):Prop:=
 Chg [] w w'∧∃(f d l bf:Nat) (Sd:List Nat) (F:FsD) (k:Int),e=.returned (.pointer (some ⟨f,0,none⟩))∧F=(doF (F0 n r m k) cs).1∧FsR w' Sd [] f d l bf F∧(∀k∈f::l::bf::Sd,w.heap.size≤k)∧FewC cs
set_option maxRecDepth 100000 in
theorem made18_ok (w:World) (n r m:Nat) (hb:fmtOk n (r:Int) (m:Int)) (hn:4≤n∧n≤300) (v:Value) (xs:List Value) (cs:List ChangeD) (hv:Sees w 4 v cs.length xs) (hx:CellsC w cs xs) (Pf:Bool→Prop)
  (hfew:∀w',Chg [] w w'→Calls Tryz.prog 36 #[v] w' fun e w''=>∃fw:Bool,e=.returned (.bool fw)∧(Pf fw∧(fw=true→FewC cs))∧Chg [] w' w''):
  Calls Tryz.prog 9 #[.int .i64 n,.int .i64 r,.int .i64 m,v] w fun e w'=>(Pf true∧MadeS w n r m cs e w')∨(Pf false∧e=.returned (.pointer none)∧Chg [] w w'):=by
 have hnew:=new_ok w n (by omega) (by omega)
 obtain⟨ao,cap,rfl,-⟩:=hv.shape
 have t1:decide ((400:Int)<(n:Int))=false:=by simp;omega
 have t1':decide (400<n)=false:=by simp;omega
 have HH:=zD hb hn hv hx hfew
 obtain⟨cl,hcl⟩:∃cl,cs.length=cl:=⟨_,rfl⟩
 rw[hcl]
 have HCL:=zH hcl
 clear hb hn hv hx hfew hcl
 go_enter Tryz.func9,Tryz.ntmps9
 go_wp2_with fail
 refine hnew.mono ?_
 rintro e w1 ⟨p,S,rfl,hD,c1,hS1⟩
 have hfm:=format_ok w1 S p (newD n) hD ⟨rfl,rfl,rfl,fun _=>zsec_len⟩ rfl r m HH.out.1
 clear hnew hD
 go_wp2_with fail
 refine hfm.mono ?_
 rintro e w2 ⟨rfl,S2,k2,hD2,hU2⟩
 have hI2:=fmt_inv HH.out.1 (by have:=HH.out.2.1;omega) k2
 have hop:=reopen_ok (q:=1) w2 S2 p (F0 n r m k2) hD2 hI2 (by decide)
 have H2:=zC c1 hS1 hU2 hI2
 clear hfm hD2 hI2 hU2 c1 hS1
 go_wp2_with fail
 refine hop.mono ?_
 rintro e w3 ⟨f,l,bf,S3,rfl,hF3,hU3⟩
 have c23:Chg [] w w2:=by
  obtain⟨c1,hS1,hU2,-⟩:=H2.out
  exact c1.trans hU2.chg (fun t ht=>.inr (hS1 t ht))
 have hnew2:∀k∈S2,w.heap.size≤k:=fun k hk=>by
  obtain⟨c1,hS1,hU2,-⟩:=H2.out
  rcases hU2.new k hk with h | h
  ·exact hS1 k h
  ·have:=c1.size;omega
 have c3:Chg [] w w3:=c23.trans hU3.chg (fun t ht=>.inr (hnew2 t ht))
 have hnew3:∀k∈f::l::bf::S3,w.heap.size≤k:=fun k hk=>by
  rcases hU3.new k hk with h | h
  ·exact hnew2 k h
  ·have:=c23.size;omega
 have hf3:=HH.out.2.2.2.2 w3 c3
 rw[HCL.out] at hf3
 have H3:=zB hF3 c3 hnew3
 clear hop hF3 hU3 c23 hnew2 c3 hnew3
 go_wp2_with fail
 refine hf3.mono ?_
 rintro e w4 ⟨fw,rfl,hfw,c4⟩
 clear hf3
 cases fw with
 | false=>
  have HC4:=zA hfw.1 (H3.out.2.1.nil c4)
  clear hfw c4
  go_wp2_with fail
  go_ret
  exact .inr ⟨HC4.out.1,rfl,HC4.out.2⟩
 | true=>
  have hF:=hfw.2 rfl
  have HPF:=zH hfw.1
  have c34:=H3.out.2.1.nil c4
  have hdo:=do_okX (q:=1) w4 S3 [] f p l bf (F0 n r m k2) (H3.out.1.chg0 c4) (by simp) H2.out.2.2.2 (by decide) cs hF.facts.1 hF.facts.2 _ xs (HH.out.2.2.1.chg0 c34) (HH.out.2.2.2.1.chg0 c34)
  rw[HCL.out] at hdo
  have H4:=zA hF c34
  clear hfw hF c4 c34
  go_wp2_with fail
  refine hdo.mono ?_
  rintro e w5 ⟨rfl,Sd5,bf5,hF5,hU5⟩
  have H5:=zA hF5 hU5
  clear hdo hF5 hU5
  go_wp2_with fail
  go_ret
  obtain⟨hF5,hU5⟩:=H5.out
  refine .inl ⟨HPF.out,H4.out.2.trans hU5.chg (fun t ht=>.inr (H3.out.2.2 t ht)),f,p,l,bf5,Sd5,_,k2,rfl,rfl,hF5,fun k hk=>?_,H4.out.1⟩
  rcases hU5.new k hk with h | h
  ·exact H3.out.2.2 k h
  ·have:=H4.out.2.size;omega
theorem few_nil (w:World):Calls Tryz.prog 36 #[.slice none 0 0] w fun e w'=>e=.returned (.bool true)∧Chg [] w w':=by
 go_enter Tryz.func36,Tryz.ntmps36
 go_wp2_with fail
 refine wp_loop_once ?_
 go_wp2_with fail
 go_ret
 exact⟨rfl,Chg.refl _ _⟩
theorem few_none:FewC []:=⟨Nat.zero_le _,fun c hc=>by simp at hc⟩
theorem made18_nil (w:World) (n r m:Nat) (hb:fmtOk n (r:Int) (m:Int)) (hn:4≤n∧n≤300):
  Calls Tryz.prog 9 #[.int .i64 n,.int .i64 r,.int .i64 m,.slice none 0 0] w (MadeS w n r m []):=by
 refine (made18_ok w n r m hb hn _ [] [] (Sees.nil _ _) .nil (fun b=>b=true) fun w' _=>(few_nil w').mono ?_).mono ?_
 ·rintro e w'' ⟨rfl,c⟩
  exact⟨true,rfl,⟨rfl,fun _=>few_none⟩,c⟩
 ·rintro e w' (⟨-,h⟩ | ⟨h,-⟩)
  ·exact h
  ·cases h
end
end Go.Proofs.YtlidiclfpklliaaGreatDoor
namespace Go.Aq.Fy
open Go.Aq Go.RowKit
theorem view_F0 (n r m:Nat) (k:Int):viewF (F0 n r m k)=[]:=rfl
theorem do_fresh {n r m:Nat} (hb:fmtOk n (r:Int) (m:Int)) (hn:n≤4096) (k:Int) (cs:List ChangeD):FInv 2 (doF (F0 n r m k) cs).1∧(((doF (F0 n r m k) cs).2≠0∧viewF (doF (F0 n r m k) cs).1=[])∨((doF (F0 n r m k) cs).2=0∧(allV [] cs).2=0∧viewF (doF (F0 n r m k) cs).1=(allV [] cs).1)):=by
 have h:=do_law (fmt_inv hb hn k) (by decide) rfl cs
 refine⟨h.1,?_⟩
 rcases h.2.2.2.2.2 with ⟨h1,h2,-⟩ | ⟨h1,h2,h3,-⟩
 ·exact .inl ⟨h1,by rw[h2];exact view_F0 n r m k⟩
 ·exact .inr ⟨h1,h2,h3⟩
theorem do_nil {n r m:Nat} (hb:fmtOk n (r:Int) (m:Int)) (hn:n≤4096) (k:Int):FInv 2 (doF (F0 n r m k) []).1∧viewF (doF (F0 n r m k) []).1=[]:=by
 obtain⟨h1,h2⟩:=do_fresh hb hn k []
 refine⟨h1,?_⟩
 rcases h2 with ⟨-,h⟩ | ⟨-,-,h⟩
 ·exact h
 ·rw[h];rfl
theorem ex_put1:putS [] [] exT=([(keyD exT,exT)],keyD exT,0):=by
 unfold putS
 rw[if_neg (by rw[exT_kind];decide)]
 rfl
theorem ex_put2:putS [] [(keyD exT,exT)] exT=([(keyD exT,exT)],keyD exT,0):=by
 unfold putS thereS
 rw[if_neg (by rw[exT_kind];decide)]
 simp[lookK]
end Go.Aq.Fy
namespace Go.Proofs.YtlidiclfpklliaaGreatDoor
open Go.RowKit Go.Aq Go.Aq.Fy Go.Maps
theorem beside {w w':World} {Sd:List Nat} {f d l bf p bm:Nat} {F:FsD} (h:FsR w Sd [] f d l bf F) (c:Chg [] w w') (hp:w.heap.size≤p∧w.heap.size≤bm):FsR w' Sd [p,bm] f d l bf F:=
 (h.wideX (X':=[p,bm]) (fun k hk=>by
  simp only[List.mem_cons,List.not_mem_nil,or_false] at hk
  rcases hk with rfl | rfl
  ·exact .inr hp.1
  ·exact .inr hp.2)).chg0 c
theorem beside_put {w w':World} {Sd:List Nat} {f d l bf p bm:Nat} {F:FsD} {st:View} (h:FsR w Sd [p,bm] f d l bf F) (hS:StgR w p bm st) (c:Chg [bm] w w'):FsR w' Sd [p,bm] f d l bf F:=
 h.farU ⟨c.mono (fun k hk=>.inl (by simp at hk;simp[hk])),fun k hk=>.inl hk⟩ hS.noU8
set_option maxRecDepth 100000 in
theorem first18_ok (w:World) (hT:Tabs w):Calls Tryz.prog 7 #[] w fun e w'=>e=.returned (.bool true)∧Chg [] w w':=by
 have hmd:=made18_nil w 60 8 4 (by unfold fmtOk;decide) (by decide)
 have HT:=zH hT
 clear hT
 go_enter Tryz.func7,Tryz.ntmps7
 go_wp2_with fail
 refine hmd.mono ?_
 rintro e w1 ⟨c1,f,d,l,bf,Sd,F,k,rfl,hFe,hF,hnw,-⟩
 obtain⟨hI,hV⟩:=do_nil (n:=60) (r:=8) (m:=4) (by unfold fmtOk;decide) (by decide) k
 rw[←hFe] at hI hV
 have HF:=zC hF hI hV c1
 have hns:=newStage_ok w1
 clear hmd hFe hF hI hV c1 hnw
 go_wp2_with fail
 refine hns.mono ?_
 rintro e w2 ⟨p,bm,rfl,hS,hp,c2⟩
 have hF2:=beside HF.out.1 c2 hp
 have HS:=zB hS hF2 (HF.out.2.2.2.nil c2)
 have HBM:Hid (w.heap.size≤bm):=Nat.le_trans HF.out.2.2.2.size hp.2
 clear hns hS hF2 hp c2
 go_wp2_with fail
 have c3:Chg [] w2 (w2.alloc (.cells #[.int .u8 1,.int .u8 82,.int .u8 0,.int .u8 1,.int .u8 0,.int .u8 1,.int .u8 1,.int .u8 8,.int .u8 7] 5)):=(Chg.refl _ _).alloc _
 have eB:(#[.int .u8 1,.int .u8 82,.int .u8 0,.int .u8 1,.int .u8 0,.int .u8 1,.int .u8 1,.int .u8 8,.int .u8 7]:Array Value).toList=Bs exT:=rfl
 have hs3:Sees (w2.alloc (.cells #[.int .u8 1,.int .u8 82,.int .u8 0,.int .u8 1,.int .u8 0,.int .u8 1,.int .u8 1,.int .u8 8,.int .u8 7] 5)) 1 (.slice (some ⟨w2.heap.size,0,none⟩) 9 9) 9 (Bs exT):=by rw[←eB];exact Sees.row (Blk.new w2 #[.int .u8 1,.int .u8 82,.int .u8 0,.int .u8 1,.int .u8 0,.int .u8 1,.int .u8 1,.int .u8 8,.int .u8 7] 5) (m:=9) rfl
 have hlt3:w2.heap.size<(w2.alloc (.cells #[.int .u8 1,.int .u8 82,.int .u8 0,.int .u8 1,.int .u8 0,.int .u8 1,.int .u8 1,.int .u8 8,.int .u8 7] 5)).heap.size:=by simp
 generalize w2.alloc (.cells #[.int .u8 1,.int .u8 82,.int .u8 0,.int .u8 1,.int .u8 0,.int .u8 1,.int .u8 1,.int .u8 8,.int .u8 7] 5)=w3 at *
 have h1:=HF.out.2.1
 have hp1:=sput_ok w3 (HT.out.chg (HS.out.2.2.nil c3)) Sd [p,bm] f d l bf F (HS.out.2.1.chg0 c3) HF.out.2.1 p bm [] (HS.out.1.chg0 c3) (by simp) _ exT hs3 (by decide)
 rw[HF.out.2.2.1,ex_put1] at hp1
 obtain⟨ky,hky⟩:∃ky,keyD exT=ky:=⟨_,rfl⟩
 have hkl:ky.length≤1000000:=by rw[←hky,keyD_len];decide
 have he2:=ex_put2
 rw[hky] at hp1 he2
 have HK:=zE hs3 (HS.out.2.2.nil c3) (HS.out.1.chg0 c3) (HS.out.2.1.chg0 c3) he2 hlt3
 clear eB hs3 c3 h1 hky he2 hlt3
 refine hp1.mono ?_
 rintro e w4 ⟨rfl,hS4,c4⟩
 have hF4:=beside_put HK.out.2.2.2.1 HK.out.2.2.1 c4
 have hbmw:w.heap.size≤bm:=HBM.out
 have c4w:Chg [] w w4:=HK.out.2.1.trans c4 (fun k hk=>by simp at hk;right;omega)
 have hs4:=HK.out.1.chg c4 (fun k hk hk'=>by
  simp[eyes] at hk
  simp at hk'
  have h1:=HS.out.1.fresh.lt
  omega)
 have hp2:=sput_ok w4 (HT.out.chg c4w) Sd [p,bm] f d l bf F hF4 HF.out.2.1 p bm _ hS4 (by simp) _ exT hs4 (by decide)
 rw[HF.out.2.2.1,HK.out.2.2.2.2.1] at hp2
 have H4:=zA c4w hS4
 clear hp1 hS4 hF4 hbmw c4w hs4 c4
 go_wp2_with fail
 refine hp2.mono ?_
 rintro e w5 ⟨rfl,hS5,c5⟩
 have c5w:Chg [] w w5:=H4.out.1.trans c5 (fun k hk=>.inr (by rw[List.mem_singleton.1 hk];exact HBM.out))
 have hl5:=slen_ok w5 p bm _ hS5
 have h5:=fun w' (c:Chg [] w5 w')=>schanges_ok w' p bm _ (hS5.chg0 c) (by simp) (fun q hq=>by simp at hq;rw[hq];show exT.length≤1000000;decide)
 have H5:=zA c5w h5
 have q4:((str ky).toList==(str ky).toList)=true:=by simp
 clear hp2 hS5 c5w c5 h5
 go_wp2_with fail
 refine hl5.mono ?_
 rintro e w6 ⟨rfl,c6⟩
 have hc6:=H5.out.2 w6 c6
 have H6:=zH (H5.out.1.nil c6)
 clear hl5 c6
 go_wp2_with fail
 refine hc6.mono ?_
 rintro e w7 ⟨v7,xs,rfl,hs7,-,c7⟩
 obtain⟨ao7,cap7,rfl,-⟩:=hs7.shape
 have hpl:=splace_ok w7 [120] (by decide)
 have e120:str [120]=⟨#[120]⟩:=rfl
 rw[e120] at hpl
 have q5:((str (placeS [120])).toList==[111,120])=true:=by rw[str_toList];rfl
 have H7:=zH (H6.out.nil c7)
 have el:(changesS [(ky,exT)]).length=1:=rfl
 rw[el]
 clear hc6 hs7 c7 el e120
 go_wp2_with fail
 refine hpl.mono ?_
 rintro e w8 ⟨rfl,c8⟩
 have H8:=zH (H7.out.nil c8)
 clear hpl c8
 go_wp2_with fail
 go_ret
 exact⟨by simp only[q5];rfl,H8.out⟩
structure StgX (w:World) (T:List Nat) (p bm:Nat) (st:View):Prop where
 blk:Blk w p #[.map (some bm)] 89
 fresh:FreshR w (p::bm::T) bm st
 ne:p≠bm
theorem StgX.stg {w:World} {T:List Nat} {p bm:Nat} {st:View} (h:StgX w T p bm st):StgR w p bm st:=
 ⟨h.blk,h.fresh.wide (fun k hk=>.inl (by
  simp only[List.mem_cons,List.not_mem_nil,or_false] at hk ⊢
  rcases hk with h | h
  ·exact .inl h
  ·exact .inr (.inl h))),h.ne⟩
theorem StgR.x {w:World} {p bm:Nat} {st:View} (h:StgR w p bm st):StgX w [] p bm st:=⟨h.blk,h.fresh,h.ne⟩
theorem StgX.chg0 {w w':World} {T:List Nat} {p bm:Nat} {st:View} (h:StgX w T p bm st) (c:Chg [] w w'):StgX w' T p bm st:=⟨h.blk.chg0 c,h.fresh.chg0 c,h.ne⟩
theorem StgX.upd {w w':World} {T T':List Nat} {p bm:Nat} {st:View} (h:StgX w T p bm st) (u:Upd T T' w w') (hp:p∉T) (hb:bm∉T):StgX w' T' p bm st:=by
 refine⟨h.blk.chg u.chg hp,?_,h.ne⟩
 have h1:=h.fresh.wide (T:=p::bm::(T++T')) (fun k hk=>by
  simp only[List.mem_cons,List.mem_append] at hk ⊢
  rcases hk with h1 | h1 | h1 | h1
  ·exact .inl (.inl h1)
  ·exact .inl (.inr (.inl h1))
  ·exact .inl (.inr (.inr h1))
  ·rcases u.new k h1 with h2 | h2
   ·exact .inl (.inr (.inr h2))
   ·exact .inr h2)
 exact (h1.chg u.chg (fun k hk=>.inl (by simp[hk])) hb).wide fun k hk=>.inl (by
  simp only[List.mem_cons,List.mem_append] at hk ⊢
  rcases hk with h1 | h1 | h1
  ·exact .inl h1
  ·exact .inr (.inl h1)
  ·exact .inr (.inr (.inr h1)))
def PutEX (w:World) (T:List Nat) (p bm:Nat) (r:View×Nm×Nat) (e:Ending) (w':World):Prop:=
 e=.returned (.tuple #[.string (str r.2.1),.int .i64 r.2.2])∧StgX w' T p bm r.1∧Chg [bm] w w'
set_option maxRecDepth 100000 in
theorem sput_okX {q:Nat} (w:World) (hT:Tabs w) (Sd X:List Nat) (f d l bf:Nat) (F:FsD) (h:FsR w Sd X f d l bf F) (hI:FInv q F) (T:List Nat) (hT2:In w T) (p bm:Nat) (st:View) (hS:StgX w T p bm st) (hst:st.length≤1000) (v:Value) (b:Sec) (hv:Sees w 1 v b.length (Bs b)) (hb:b.length≤1000000):
  Calls Tryz.prog 13 #[.pointer (some ⟨p,0,none⟩),.pointer (some ⟨f,0,none⟩),v] w (PutEX w T p bm (putS (viewF F) st b)):=by
 have hk:=okind_ok w hT v b hv hb
 have hkey:=fun w' (c:Chg [] w w')=>key_any w' v b.length b (hv.chg0 c) hb
 have hth:=fun w' (c:Chg [] w w')=>there_st w' Sd X f d l bf F (h.chg0 c) hI p bm st (hS.chg0 c).stg (keyD b) (by rw[keyD_len];decide)
 have hcase:=putS_cases (v:=viewF F) (st:=st) (b:=b)
 have hkl:(keyD b).length≤1048576:=by rw[keyD_len];decide
 obtain⟨R,hR⟩:∃R,putS (viewF F) st b=R:=⟨_,rfl⟩
 rw[hR] at hcase ⊢
 obtain⟨TH,hTH⟩:∃TH,thereS (viewF F) st (keyD b)=TH:=⟨_,rfl⟩
 rw[hTH] at hth hcase
 obtain⟨n,hn⟩:∃n,b.length=n:=⟨_,rfl⟩
 rw[hn] at hv hb
 obtain⟨ao,cap,rfl,-⟩:=hv.shape
 have HV:=zB hv hn hb
 have HS:=zA hS hst
 have HT2X:=zH hT2
 clear hT2
 have HH:=zA hkey hth
 have hKS:keyD b=hexL (Sha.sum b):=rfl
 rw[←hKS] at hkey
 have HKY:=zH hkey
 have HKL:=zH hkl
 obtain⟨ky,hky⟩:∃ky,keyD b=ky:=⟨_,rfl⟩
 rw[hky] at hcase hKS
 have HKY2:=zH hky
 have hkey2:∀w',Chg [] w w'→Calls Tryz.prog 49 #[.slice ao n cap] w' fun e w''=>e=.returned (.string (str ky))∧Chg [] w' w'':=fun w' c=>by have h:=HKY.out w' c;rw[hky] at h;exact h
 have hth2:∀w',Chg [] w w'→Calls Tryz.prog 50 #[.pointer (some ⟨p,0,none⟩),.pointer (some ⟨f,0,none⟩),.string (str ky)] w' (ThereE w' TH):=fun w' c=>by have h:=hth w' c;rw[hky] at h;exact h
 have HK2:=zH hkey2
 have HT2:=zH hth2
 clear hT h hI hS hst hv hb hkey hth hkl hR hTH hn HH hKS HKY hky hkey2 hth2
 rcases hcase with ⟨hk0,rfl⟩ | ⟨hk0,hcase⟩
 ·have e0:((kindO b:Nat):Int)=0:=by omega
  rw[if_pos hk0,e0] at hk
  clear hk0 e0
  go_enter Tryz.func13,Tryz.ntmps13
  go_wp2_with fail
  refine hk.mono ?_
  rintro e w1 ⟨rfl,c1⟩
  have HC:=zH c1
  clear hk c1
  go_wp2_with fail
  go_ret2
  exact⟨rfl,HS.out.1.chg0 HC.out,HC.out.toS⟩
 ·rw[if_neg hk0] at hk
  obtain⟨kn,hkn⟩:∃kn:Nat,kindO b=kn:=⟨_,rfl⟩
  rw[hkn] at hk
  clear hk0 hkn
  go_enter Tryz.func13,Tryz.ntmps13
  go_wp2_with fail
  refine hk.mono ?_
  rintro e w1 ⟨rfl,c1⟩
  have hk1:=HK2.out w1 c1
  have HC1:=zH c1
  clear hk c1
  go_wp2_with fail
  refine hk1.mono ?_
  rintro e w2 ⟨rfl,c2⟩
  have ct2:=HC1.out.nil c2
  have ht2:=HT2.out w2 ct2
  have HC2:=zH ct2
  clear hk1 c2 ct2
  go_wp2_with fail
  refine ht2.mono ?_
  rintro e w3 ⟨⟨ao3,n3,cap3,rfl,hn3,hs3⟩,c3⟩
  have ct3:=HC2.out.nil c3
  have hvb:=HV.out.1.chg0 ct3
  have HC3:=zH ct3
  clear ht2 c3 ct3
  rcases hcase with ⟨c,rfl,hcb,rfl⟩ | ⟨rfl,rfl⟩ | ⟨rfl,rfl⟩
  ·have heq:=equal_any w3 _ _ _ _ _ _ hs3 hvb
   have d:decide ((some c).getD []=b)=false:=decide_eq_false hcb
   rw[d] at heq
   simp only[Option.isSome]
   clear hcb d hs3 hvb hn3
   go_wp2_with fail
   refine heq.mono ?_
   rintro e w4 ⟨rfl,rfl⟩
   clear heq
   go_wp2_with fail
   go_ret2
   exact⟨rfl,HS.out.1.chg0 HC3.out,HC3.out.toS⟩
  ·have heq:=equal_any w3 _ _ _ _ _ _ hs3 hvb
   have d:decide ((some b).getD []=b)=true:=decide_eq_true rfl
   rw[d] at heq
   simp only[Option.isSome]
   clear d hs3 hvb hn3
   go_wp2_with fail
   refine heq.mono ?_
   rintro e w4 ⟨rfl,rfl⟩
   clear heq
   go_wp2_with fail
   go_ret2
   exact⟨rfl,HS.out.1.chg0 HC3.out,HC3.out.toS⟩
  ·simp only[Option.isSome]
   have hS3:=HS.out.1.chg0 HC3.out
   clear hs3 hn3
   go_upto_region 11 with (fail)
   refine wp_region_U [] (fun i=>i==7) (by kernel_rfl) ?_
   have cd:Chg [] w3 w3.drew:=(Chg.refl _ _).drew
   have hSE:=hS3.chg0 cd
   have hvE:=hvb.chg0 cd
   have HCE:=zH (HC3.out.nil cd)
   clear hS3 hvb cd
   generalize w3.drew=wE at *
   have C0:Chg [] wE wE:=Chg.refl _ _
   have y0:wE.cell? ⟨p,0,none⟩=some (.map (some bm)):=hSE.blk.cell 0
   refine tU 0 (.pointer (some ⟨p,0,none⟩)) C0 (fun w4 c4=>?_) ?_
   ·go_simp
   try simp only[Act.put,yA,yB,yC,yD,yE,yF]
   refine tU 1 (.pointer (some ⟨p,0,none⟩)) C0 (fun w4 c4=>?_) ?_
   ·go_simp
   try simp only[Act.put,yA,yB,yC,yD,yE,yF]
   refine tU 2 (.pointer (some ⟨p,0,none⟩)) C0 (fun w4 c4=>?_) ?_
   ·go_simp
   try simp only[Act.put,yA,yB,yC,yD,yE,yF]
   refine tU 3 (.map (some bm)) C0 (fun w4 c4=>?_) ?_
   ·have z:=c4.cell_some y0 (by simp)
    go_simp
   try simp only[Act.put,yA,yB,yC,yD,yE,yF]
   refine tU 4 (.string (str ky)) C0 (fun w4 c4=>?_) ?_
   ·go_simp
   try simp only[Act.put,yA,yB,yC,yD,yE,yF]
   refine tU 5 (.slice ao n cap) C0 (fun w4 c4=>?_) ?_
   ·go_simp
   try simp only[Act.put,yA,yB,yC,yD,yE,yF]
   have HSE:=zH hSE
   clear y0 hSE
   refine oU 6 ?_
   go_simp
   refine (shaclone_any wE _ n b hvE (by have:=HV.out.2.2;omega)).mono ?_
   rintro e w7 ⟨v7,rfl,hf7⟩
   refine⟨hf7.chg,?_⟩
   have hs7:=hf7.own.sees
   have hB7:BytesV w7 (p::bm::T) b v7:=⟨by rw[HV.out.2.1];exact hs7,fun k hk hk'=>by
    have h1:=hf7.new k (eyes_own _ k hk)
    have h2:=HSE.out.blk.lt
    have h3:=HSE.out.fresh.lt
    have h4:In wE T:=fun x hx=>Nat.lt_of_lt_of_le (HT2X.out x hx) HCE.out.size
    simp only[List.mem_cons] at hk'
    rcases hk' with hk' | hk' | hk'
    ·omega
    ·omega
    ·have:=h4 k hk';omega⟩
   have hS7:=HSE.out.chg0 hf7.chg
   obtain⟨w8,r8,hF8,c8⟩:=hS7.fresh.put ky (by rw[←HKY2.out];exact HKL.out) (by simp) (by have:=HS.out.2;omega) hB7
   obtain⟨ao7,cap7,rfl,-⟩:=hs7.shape
   have HE:=zC hF8 c8 hS7 (HCE.out.nil hf7.chg)
   clear hF8 c8 hS7 hB7 hs7 hf7 hvE C0
   try simp only[Act.put,yA,yB,yC,yD,yE,yF]
   refine wpAnyU_last 7 rfl (by kernel_rfl) (by rfl) (by rfl) ?_
   refine wp_upd _ _ _ 87 rfl rfl rfl rfl r8 ?_
   try simp only[Act.put,yA,yB,yC,yD,yE,yF]
   refine wpAny_fin (by kernel_rfl) ?_ _
   clear r8
   go_wp2_with fail
   go_ret2
   refine⟨rfl,⟨HE.out.2.2.1.blk.chg HE.out.2.1 (by have:=HE.out.2.2.1.ne;simpa using this),?_,HE.out.2.2.1.ne⟩,HE.out.2.2.2.toS.tr HE.out.2.1⟩
   exact HE.out.1
end Go.Proofs.YtlidiclfpklliaaGreatDoor
namespace Go.Aq.Fy
def FewT (ls:List Nat):Prop:=ls.length≤60∧∀c∈ls,c≤20000
def fewTI (cs:List Nat) (i n:Nat):Prop:=n≤80000∧∀c∈cs.take i,min c 20001≤n
theorem fewTI_step {cs:List Nat} {i n:Nat} (h:fewTI cs i n) (hi:i<cs.length) {c:Nat} (hc:cs[i]=c):fewTI cs (i+1) (min (n+min c 20001) 80000):=by
 obtain⟨ha,hb⟩:=h
 refine⟨by omega,fun x hx=>?_⟩
 rw[List.take_succ_eq_append_getElem hi,hc] at hx
 rcases List.mem_append.1 hx with hx | hx
 ·have h5:=hb x hx
  omega
 ·rw[List.mem_singleton.1 hx]
  omega
theorem fewTI_end {cs:List Nat} {i n:Nat} (h:fewTI cs i n) (hi:i=min cs.length 60) (h1:cs.length≤60) (h2:n≤20000):FewT cs:=by
 refine⟨h1,fun c hc=>?_⟩
 obtain⟨-,hb⟩:=h
 rw[List.take_of_length_le (by omega)] at hb
 have h5:=hb c hc
 omega
end Go.Aq.Fy
namespace Go.Proofs.YtlidiclfpklliaaGreatDoor
open Go.RowKit Go.Aq Go.Aq.Fy Go.Maps
set_option maxRecDepth 100000 in
theorem texts18_ok (w:World) (cs:List Nat) (v:Value) (xs:List Value) (hv:Sees w 1 v cs.length xs)
  (hx:∀i (h:i<cs.length),∃ao cap,xs[i]?=some (.slice ao cs[i] cap)):
  Calls Tryz.prog 8 #[v] w fun e w'=>∃b:Bool,e=.returned (.bool b)∧(b=true→FewT cs)∧Chg [] w w':=by
 obtain⟨ao,cap,rfl,hcap,-⟩:=hv.shape
 obtain⟨N,hN⟩:∃N,cs.length=N:=⟨_,rfl⟩
 rw[hN] at hv
 obtain⟨M,hM⟩:∃M,min N 60=M:=⟨_,rfl⟩
 have HH:=zC hv hx hN (show min cs.length 60=M by rw[hN];exact hM)
 have hM40:M≤60∧M≤N:=by omega
 rw[hN] at hcap ⊢
 clear hv hx hN
 go_enter Tryz.func8,Tryz.ntmps8
 go_wp2_with fail
 go_loopg [3,4] M (fun kk (v3 v4:Value) wr=>∃(i n:Nat),v4=.int .i64 i∧v3=.int .i64 n∧Hid (i+kk=M∧fewTI cs i n∧Chg [] w wr))
 case atStart=>exact⟨0,0,rfl,rfl,Nat.zero_add _,⟨Nat.zero_le _,fun c hc=>by simp at hc⟩,Chg.refl _ _⟩
 case round=>
  obtain⟨i,n,rfl,rfl,HJ⟩:=hrel
  by_cases hi:i<M
  ·have hiN:i<N:=by omega
   have t0:decide ((i:Int)<(N:Int))=true:=by simp;omega
   have t0':decide (i<N)=true:=by simp;omega
   have t1:decide ((i:Int)<60)=true:=by simp;omega
   have t1':decide (i<60)=true:=by simp;omega
   obtain⟨hik,hfi,cw⟩:=HJ.out
   have hn28:=hfi.1
   have hil:i<cs.length:=by rw[HH.out.2.2.1];exact hiN
   obtain⟨c,hc⟩:∃c,cs[i]'hil=c:=⟨_,rfl⟩
   obtain⟨ad,cd,y3⟩:=HH.out.2.1 i hil
   rw[hc] at y3
   obtain⟨g1,o1,cp1,e,-,hcell⟩:=(HH.out.1.chg0 cw).at1 (by omega)
   cases e
   have z3:=hcell i hiN
   rw[y3] at z3
   have e2:wrap64 ((i:Int)+1)=((i+1:Nat):Int):=by unfold wrap64;omega
   have hstep:=fewTI_step hfi hil hc
   have hq:=lg1 hik hi
   have HQ:=zB hq cw hstep
   have hmin:min ((n:Int)+min (c:Int) 20001) 80000=((min (n+min c 20001) 80000:Nat):Int):=by omega
   have hw1:wrap64 ((n:Int)+min (c:Int) 20001)=(n:Int)+min (c:Int) 20001:=by unfold wrap64;omega
   clear hik hfi cw hil hc y3 hstep hq hcell
   have e2w:=wIq e2
   have hw1':=wIq hw1
   have HM:=zH hmin
   clear hmin
   go_wp2_with fail
   go_roundg (gk - 1)
   case measure=>exact HQ.out.1.2
   case rel=>exact⟨i+1,_,by simp,by rw[HM.out],HQ.out.1.1,HQ.out.2.2,HQ.out.2.1⟩
  ·obtain⟨hik,hfi,cw⟩:=HJ.out
   have hiM:i=M:=lg2 hik hi
   have hn28:=hfi.1
   by_cases h40:N≤60
   ·have hiN:i=N:=by omega
    have t0:decide ((i:Int)<(N:Int))=false:=by simp;omega
    have t0':decide (i<N)=false:=by simp;omega
    have t1:decide ((N:Int)≤60)=true:=by simp;omega
    have t1':decide (N≤60)=true:=by simp;omega
    by_cases h7:n≤20000
    ·have t2:decide ((n:Int)≤20000)=true:=by simp;omega
     have t2':decide (n≤20000)=true:=by simp;omega
     have hfew:FewT cs:=fewTI_end hfi (by rw[hiM];exact HH.out.2.2.2.symm) (by rw[HH.out.2.2.1];exact h40) h7
     clear h7 h40 hiN hi hik hfi hiM
     go_wp2_with fail
     go_ret
     exact⟨true,rfl,fun _=>hfew,cw⟩
    ·have t2:decide ((n:Int)≤20000)=false:=by simp;omega
     have t2':decide (n≤20000)=false:=by simp;omega
     clear h7 h40 hiN hi hik hfi hiM
     go_wp2_with fail
     go_ret
     exact⟨false,rfl,fun h=>(by cases h),cw⟩
   ·have hi4:i=60:=by omega
    have t0:decide ((i:Int)<(N:Int))=true:=by simp;omega
    have t0':decide (i<N)=true:=by simp;omega
    have t3:decide ((i:Int)<60)=false:=by simp;omega
    have t3':decide (i<60)=false:=by simp;omega
    have t1:decide ((N:Int)≤60)=false:=by simp;omega
    have t1':decide (N≤60)=false:=by simp;omega
    clear h40 hi4 hi hik hfi hiM
    go_wp2_with fail
    go_ret
    exact⟨false,rfl,fun h=>(by cases h),cw⟩
structure BackJ (w w1 wr:World) (p bm:Nat) (vk vd:Value) (st:View) (ks:List Nm) (ds:List Sec) (ys:List Value):Prop where
 c:Chg [] w1 wr
 stg:StgX wr (vk.ownBlock.toList++vd.ownBlock.toList) p bm st
 off:∀k∈vk.ownBlock.toList++vd.ownBlock.toList,k≠p∧k≠bm
 p1:w1.heap.size≤p∧w1.heap.size≤bm
 ok:Aq.Own wr 9 1 vk ks.length (names ks)
 od:Aq.Own wr 36 1 vd ds.length ys
 new:∀k∈vk.ownBlock.toList++vd.ownBlock.toList,w1.heap.size≤k
 dj:Disj vk.ownBlock.toList vd.ownBlock.toList
 see:∀(j:Nat) (b:Sec),ds[j]?=some b→∃y,ys[j]?=some y∧Sees w 1 y b.length (Bs b)
section
variable {w w1 wr w':World} {p bm:Nat} {vk vd:Value} {st:View} {ks:List Nm} {ds:List Sec} {ys:List Value}
theorem BackJ.start {w w1 w2:World} {p bm:Nat} (h:StgR w2 p bm []) (hp:w1.heap.size≤p∧w1.heap.size≤bm) (c:Chg [] w1 w2):BackJ w w1 w2 p bm (.slice none 0 0) (.slice none 0 0) [] [] [] []:=
 ⟨c,h.x,by simp[Value.ownBlock],hp,Aq.Own.nil _ _ _,Aq.Own.nil _ _ _,by simp[Value.ownBlock],fun k hk=>by simp[Value.ownBlock] at hk,fun j b h=>by simp at h⟩
theorem BackJ.chg0 (h:BackJ w w1 wr p bm vk vd st ks ds ys) (c:Chg [] wr w'):BackJ w w1 w' p bm vk vd st ks ds ys:=
 ⟨h.c.nil c,h.stg.chg0 c,h.off,h.p1,h.ok.chg c (fun _ _=>by simp),h.od.chg c (fun _ _=>by simp),h.new,h.dj,h.see⟩
theorem BackJ.tin (h:BackJ w w1 wr p bm vk vd st ks ds ys):In wr (vk.ownBlock.toList++vd.ownBlock.toList):=fun k hk=>by
 rcases List.mem_append.1 hk with h1 | h1
 ·exact h.ok.lt k h1
 ·exact h.od.lt k h1
theorem BackJ.put {st':View} (h:BackJ w w1 wr p bm vk vd st ks ds ys) (hs:StgX w' (vk.ownBlock.toList++vd.ownBlock.toList) p bm st') (c:Chg [bm] wr w'):BackJ w w1 w' p bm vk vd st' ks ds ys:=
 ⟨h.c.trans c (fun k hk=>.inr (by rw[List.mem_singleton.1 hk];exact h.p1.2)),hs,h.off,h.p1,
  h.ok.chg c (fun k hk hk'=>(h.off k (List.mem_append_left _ hk)).2 (List.mem_singleton.1 hk')),
  h.od.chg c (fun k hk hk'=>(h.off k (List.mem_append_right _ hk)).2 (List.mem_singleton.1 hk')),h.new,h.dj,h.see⟩
theorem BackJ.appK {vk':Value} {k:Nm} (h:BackJ w w1 wr p bm vk vd st ks ds ys) (ho:Aq.Own w' 9 1 vk' (ks.length+1) (names ks++[.string (str k)])) (c:Chg vk.ownBlock.toList wr w')
  (hn:∀k∈vk'.ownBlock.toList,k∈vk.ownBlock.toList∨wr.heap.size≤k):BackJ w w1 w' p bm vk' vd st (ks++[k]) ds ys:=by
 have hpl:=h.stg.blk.lt
 have hbl:=h.stg.fresh.lt
 have h1w:=h.c.size
 have hnew:∀k∈vk'.ownBlock.toList++vd.ownBlock.toList,k∈vk.ownBlock.toList++vd.ownBlock.toList∨wr.heap.size≤k:=fun x hx=>by
  rcases List.mem_append.1 hx with h1 | h1
  ·exact (hn x h1).imp (List.mem_append_left _) id
  ·exact .inl (List.mem_append_right _ h1)
 refine⟨h.c.trans c (fun k hk=>.inr (h.new k (List.mem_append_left _ hk))),h.stg.upd ⟨c.mono (fun k hk=>.inl (List.mem_append_left _ hk)),hnew⟩ (fun hk=>(h.off p hk).1 rfl) (fun hk=>(h.off bm hk).2 rfl),
  fun x hx=>?_,h.p1,by rw[List.length_append,names_push];exact ho,h.od.chg c (fun x hx hx'=>h.dj x hx' hx),fun x hx=>?_,fun x hx hx'=>?_,h.see⟩
 ·rcases hnew x hx with h1 | h1
  ·exact h.off x h1
  ·exact⟨by omega,by omega⟩
 ·rcases hnew x hx with h1 | h1
  ·exact h.new x h1
  ·omega
 ·rcases hn x hx with h1 | h1
  ·exact h.dj x h1 hx'
  ·have:=h.od.lt x hx';omega
theorem BackJ.appD {vd' y:Value} {b:Sec} (h:BackJ w w1 wr p bm vk vd st ks ds ys) (hy:Sees w 1 y b.length (Bs b)) (ho:Aq.Own w' 36 1 vd' (ds.length+1) (ys++[y])) (c:Chg vd.ownBlock.toList wr w')
  (hn:∀k∈vd'.ownBlock.toList,k∈vd.ownBlock.toList∨wr.heap.size≤k):BackJ w w1 w' p bm vk vd' st ks (ds++[b]) (ys++[y]):=by
 have hpl:=h.stg.blk.lt
 have hbl:=h.stg.fresh.lt
 have h1w:=h.c.size
 have hyl:ys.length=ds.length:=by have:=h.od.len;omega
 have hnew:∀k∈vk.ownBlock.toList++vd'.ownBlock.toList,k∈vk.ownBlock.toList++vd.ownBlock.toList∨wr.heap.size≤k:=fun x hx=>by
  rcases List.mem_append.1 hx with h1 | h1
  ·exact .inl (List.mem_append_left _ h1)
  ·exact (hn x h1).imp (List.mem_append_right _) id
 refine⟨h.c.trans c (fun k hk=>.inr (h.new k (List.mem_append_right _ hk))),h.stg.upd ⟨c.mono (fun k hk=>.inl (List.mem_append_right _ hk)),hnew⟩ (fun hk=>(h.off p hk).1 rfl) (fun hk=>(h.off bm hk).2 rfl),
  fun x hx=>?_,h.p1,h.ok.chg c (fun x hx hx'=>h.dj x hx hx'),by rw[List.length_append];exact ho,fun x hx=>?_,fun x hx hx'=>?_,fun j c' hj=>?_⟩
 ·rcases hnew x hx with h1 | h1
  ·exact h.off x h1
  ·exact⟨by omega,by omega⟩
 ·rcases hnew x hx with h1 | h1
  ·exact h.new x h1
  ·omega
 ·rcases hn x hx' with h1 | h1
  ·exact h.dj x hx h1
  ·have:=h.ok.lt x hx;omega
 ·by_cases hjl:j<ds.length
  ·rw[List.getElem?_append_left hjl] at hj
   rw[List.getElem?_append_left (by omega)]
   exact h.see j c' hj
  ·have hj2:j=ds.length:=by
    have:=(List.getElem?_eq_some_iff.1 hj).1
    simp at this
    omega
   subst hj2
   rw[List.getElem?_append_right (Nat.le_refl _)] at hj
   rw[List.getElem?_append_right (by omega)]
   simp at hj
   subst hj
   exact⟨y,by simp[hyl],hy⟩
end
end Go.Proofs.YtlidiclfpklliaaGreatDoor
