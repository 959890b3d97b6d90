/- OrG StF StG StH StJ StK OpenS LaidS -/
import Derived.Test.YtlidiclfpklliaaGreatDoorOrF
import Derived.Test.YtlidiclfpklliaaGreatDoorG42
import Derived.ProofKit
import Derived.OpenShut
import Derived.ShutString
import Derived.Deep.Slices
import Derived.Deep.Fields
import Derived.Test.YtlidiclfpklliaaGreatDoorCards
import Derived.Lib.LaidTab
import Derived.PinnedBridge
import Derived.ShapedOpen
set_option linter.unusedSimpArgs false
set_option linter.unusedVariables false
set_option maxHeartbeats 4000000
namespace Go.Proofs.YtlidiclfpklliaaGreatDoor
section
open Go.RowKit Go.Aq Go.Aq.Fy
theorem kind_cases (b:List UInt8):kindO b=if refTile b=true then 1 else if refTree b=true then 2 else if kindO b=3 then 3 else 0:=by
 by_cases h1:refTile b=true
 ·rw[if_pos h1];exact (tile_iff b).2 h1
 ·rw[if_neg h1]
  by_cases h2:refTree b=true
  ·rw[if_pos h2];exact (tree_iff b).2 h2
  ·rw[if_neg h2]
   by_cases h3:kindO b=3
   ·rw[if_pos h3];exact h3
   ·rw[if_neg h3]
    have n1:kindO b≠1:=fun e=>h1 ((tile_iff b).1 e)
    have n2:kindO b≠2:=fun e=>h2 ((tree_iff b).1 e)
    have hk:∀o:ObjD,o.kind=1∨o.kind=2∨o.kind=3:=fun o=>by cases o <;> simp[ObjD.kind]
    unfold kindO at *
    cases hp:parseO b with
    | none=>rfl
    | some o=>
     rw[hp] at n1 n2 h3
     simp only at n1 n2 h3
     rcases hk o with h | h | h
     ·exact absurd h n1
     ·exact absurd h n2
     ·exact absurd h h3
set_option maxRecDepth 100000 in
theorem rkindO_any (w:World) (v:Value) (b:List UInt8) (n:Nat) (hn:b.length=n) (hv:Sees w 1 v n (Bs b)) (hb:n≤1000000):
  Calls Tryz.prog 31 #[v] w fun e w'=>e=.returned (.int .i64 (kindO b:Nat))∧Chg [] w w':=by
 have HK:Hid (kindO b=if refTile b=true then 1 else if refTree b=true then 2 else if kindO b=3 then 3 else 0):=kind_cases b
 have h3i:Hid (kindO b=3↔refComm b):=comm_iff b
 obtain⟨R,hR⟩:∃R,kindO b=R:=⟨_,rfl⟩
 rw[hR]
 have HR:=zH hR
 clear hR
 have h1:=fun w' (c:Chg [] w w')=>asTile_any w' v b n hn (hv.chg0 c) hb
 have h2:=fun w' (c:Chg [] w w')=>asTree_any w' v b n hn (hv.chg0 c) hb
 have h3:=fun w' (c:Chg [] w w')=>asComm_any w' v b n hn (hv.chg0 c) hb
 obtain⟨ao,cap,rfl,-⟩:=hv.shape
 have hk1:=h1 w (Chg.refl _ _)
 have H2:=zH h2
 have H3:=zH h3
 clear hv hn hb h1 h2 h3
 go_enter Tryz.func31,Tryz.ntmps31
 go_wp2_with fail
 refine hk1.mono ?_
 rintro e w1 ⟨⟨v1,rfl,s,pa,pn,pc,rfl,-⟩,c1⟩
 have c1b:=c1.alloc (.cells #[.int .i64 s.w,.int .i64 s.h,.int .i64 s.c,.int .i64 s.d,.slice pa pn pc] 147)
 have hk2:=H2.out _ c1b
 have HC1:=zH c1b
 unfold rasV
 clear hk1 c1 c1b
 go_wp2_with fail
 generalize w1.alloc (.cells #[.int .i64 s.w,.int .i64 s.h,.int .i64 s.c,.int .i64 s.d,.slice pa pn pc] 147)=w2 at *
 refine hk2.mono ?_
 rintro e w3 ⟨⟨v2,rfl,t,ka,kn,kc,rfl,-⟩,c3⟩
 have c3b:=(HC1.out.nil c3).alloc (.cells #[.int .i64 t.shp.w,.int .i64 t.shp.h,.int .i64 t.shp.c,.int .i64 t.shp.d,.slice ka kn kc] 151)
 have hk3:=H3.out _ c3b
 have HC3:=zH c3b
 unfold treeV
 clear hk2 c3 c3b
 go_wp2_with fail
 generalize w3.alloc (.cells #[.int .i64 t.shp.w,.int .i64 t.shp.h,.int .i64 t.shp.c,.int .i64 t.shp.d,.slice ka kn kc] 151)=w4 at *
 refine hk3.mono ?_
 rintro e w5 ⟨⟨v3,ok,rfl,hok,c,ca,cn,cc,rfl,-⟩,c5⟩
 have HC5:=zH ((HC3.out.nil c5).alloc (.cells #[.string (str c.tree),.slice ca cn cc,.int .i64 c.stamp,.string (str c.author),.string (str c.text)] 155))
 have HOK:=zH hok
 unfold commV
 clear hk3 c5 hok
 cases q1:refTile b with
 | true=>
  have e:R=1:=by rw[←HR.out,HK.out,if_pos q1]
  have HE:=zH e
  clear e
  go_wp2_with fail
  go_ret
  exact⟨by rw[HE.out];rfl,HC5.out⟩
 | false=>
  cases q2:refTree b with
  | true=>
   have e:R=2:=by rw[←HR.out,HK.out,if_neg (by rw[q1];decide),if_pos q2]
   have HE:=zH e
   clear e
   go_wp2_with fail
   go_ret
   exact⟨by rw[HE.out];rfl,HC5.out⟩
  | false=>
   cases ok with
   | true=>
    have e:R=3:=by rw[←HR.out];exact h3i.out.2 (HOK.out.1 rfl)
    have HE:=zH e
    clear e
    go_wp2_with fail
    go_ret
    exact⟨by rw[HE.out];rfl,HC5.out⟩
   | false=>
    have e:R=0:=by
     rw[←HR.out,HK.out,if_neg (by rw[q1];decide),if_neg (by rw[q2];decide),if_neg]
     intro h
     have:=HOK.out.2 (h3i.out.1 h)
     cases this
    have HE:=zH e
    clear e
    go_wp2_with fail
    go_ret
    exact⟨by rw[HE.out];rfl,HC5.out⟩
end
section
open Go.RowKit Go.Aq Go.Aq.Fy Go.Maps
def MadeS (w:World) (n r m:Nat) (cs:List ChangeD) (e:Ending) (w':World):Prop:=
 Chg [] w w'∧∃(f d l bf:Nat) (Sd:List Nat) (F:FsD) (k:Int),e=.returned (.pointer (some ⟨f,0,none⟩))∧F=(doF (F0 n r m k) cs).1∧FsR w' Sd [] f d l bf F∧(∀k∈f::l::bf::Sd,w.heap.size≤k)∧FewC cs
set_option maxRecDepth 100000 in
theorem made18_ok (w:World) (n r m:Nat) (hb:fmtOk n (r:Int) (m:Int)) (hn:4≤n∧n≤300) (v:Value) (xs:List Value) (cs:List ChangeD) (hv:Sees w 4 v cs.length xs) (hx:CellsC w cs xs) (Pf:Bool→Prop)
  (hfew:∀w',Chg [] w w'→Calls Tryz.prog 36 #[v] w' fun e w''=>∃fw:Bool,e=.returned (.bool fw)∧(Pf fw∧(fw=true→FewC cs))∧Chg [] w' w''):
  Calls Tryz.prog 9 #[.int .i64 n,.int .i64 r,.int .i64 m,v] w fun e w'=>(Pf true∧MadeS w n r m cs e w')∨(Pf false∧e=.returned (.pointer none)∧Chg [] w w'):=by
 have hnew:=new_ok w n (by omega) (by omega)
 obtain⟨ao,cap,rfl,-⟩:=hv.shape
 have t1:decide ((400:Int)<(n:Int))=false:=by simp;omega
 have t1':decide (400<n)=false:=by simp;omega
 have HH:=zD hb hn hv hx hfew
 obtain⟨cl,hcl⟩:∃cl,cs.length=cl:=⟨_,rfl⟩
 rw[hcl]
 have HCL:=zH hcl
 clear hb hn hv hx hfew hcl
 go_enter Tryz.func9,Tryz.ntmps9
 go_wp2_with fail
 refine hnew.mono ?_
 rintro e w1 ⟨p,S,rfl,hD,c1,hS1⟩
 have hfm:=format_ok w1 S p (newD n) hD ⟨rfl,rfl,rfl,fun _=>zsec_len⟩ rfl r m HH.out.1
 clear hnew hD
 go_wp2_with fail
 refine hfm.mono ?_
 rintro e w2 ⟨rfl,S2,k2,hD2,hU2⟩
 have hI2:=fmt_inv HH.out.1 (by have:=HH.out.2.1;omega) k2
 have hop:=reopen_ok (q:=1) w2 S2 p (F0 n r m k2) hD2 hI2 (by decide)
 have H2:=zC c1 hS1 hU2 hI2
 clear hfm hD2 hI2 hU2 c1 hS1
 go_wp2_with fail
 refine hop.mono ?_
 rintro e w3 ⟨f,l,bf,S3,rfl,hF3,hU3⟩
 have c23:Chg [] w w2:=by
  obtain⟨c1,hS1,hU2,-⟩:=H2.out
  exact c1.trans hU2.chg (fun t ht=>.inr (hS1 t ht))
 have hnew2:∀k∈S2,w.heap.size≤k:=fun k hk=>by
  obtain⟨c1,hS1,hU2,-⟩:=H2.out
  rcases hU2.new k hk with h | h
  ·exact hS1 k h
  ·have:=c1.size;omega
 have c3:Chg [] w w3:=c23.trans hU3.chg (fun t ht=>.inr (hnew2 t ht))
 have hnew3:∀k∈f::l::bf::S3,w.heap.size≤k:=fun k hk=>by
  rcases hU3.new k hk with h | h
  ·exact hnew2 k h
  ·have:=c23.size;omega
 have hf3:=HH.out.2.2.2.2 w3 c3
 rw[HCL.out] at hf3
 have H3:=zB hF3 c3 hnew3
 clear hop hF3 hU3 c23 hnew2 c3 hnew3
 go_wp2_with fail
 refine hf3.mono ?_
 rintro e w4 ⟨fw,rfl,hfw,c4⟩
 clear hf3
 cases fw with
 | false=>
  have HC4:=zA hfw.1 (H3.out.2.1.nil c4)
  clear hfw c4
  go_wp2_with fail
  go_ret
  exact .inr ⟨HC4.out.1,rfl,HC4.out.2⟩
 | true=>
  have hF:=hfw.2 rfl
  have HPF:=zH hfw.1
  have c34:=H3.out.2.1.nil c4
  have hdo:=do_okX (q:=1) w4 S3 [] f p l bf (F0 n r m k2) (H3.out.1.chg0 c4) (by simp) H2.out.2.2.2 (by decide) cs hF.facts.1 hF.facts.2 _ xs (HH.out.2.2.1.chg0 c34) (HH.out.2.2.2.1.chg0 c34)
  rw[HCL.out] at hdo
  have H4:=zA hF c34
  clear hfw hF c4 c34
  go_wp2_with fail
  refine hdo.mono ?_
  rintro e w5 ⟨rfl,Sd5,bf5,hF5,hU5⟩
  have H5:=zA hF5 hU5
  clear hdo hF5 hU5
  go_wp2_with fail
  go_ret
  obtain⟨hF5,hU5⟩:=H5.out
  refine .inl ⟨HPF.out,H4.out.2.trans hU5.chg (fun t ht=>.inr (H3.out.2.2 t ht)),f,p,l,bf5,Sd5,_,k2,rfl,rfl,hF5,fun k hk=>?_,H4.out.1⟩
  rcases hU5.new k hk with h | h
  ·exact H3.out.2.2 k h
  ·have:=H4.out.2.size;omega
theorem few_nil (w:World):Calls Tryz.prog 36 #[.slice none 0 0] w fun e w'=>e=.returned (.bool true)∧Chg [] w w':=by
 go_enter Tryz.func36,Tryz.ntmps36
 go_wp2_with fail
 refine wp_loop_once ?_
 go_wp2_with fail
 go_ret
 exact⟨rfl,Chg.refl _ _⟩
theorem few_none:FewC []:=⟨Nat.zero_le _,fun c hc=>by simp at hc⟩
theorem made18_nil (w:World) (n r m:Nat) (hb:fmtOk n (r:Int) (m:Int)) (hn:4≤n∧n≤300):
  Calls Tryz.prog 9 #[.int .i64 n,.int .i64 r,.int .i64 m,.slice none 0 0] w (MadeS w n r m []):=by
 refine (made18_ok w n r m hb hn _ [] [] (Sees.nil _ _) .nil (fun b=>b=true) fun w' _=>(few_nil w').mono ?_).mono ?_
 ·rintro e w'' ⟨rfl,c⟩
  exact⟨true,rfl,⟨rfl,fun _=>few_none⟩,c⟩
 ·rintro e w' (⟨-,h⟩ | ⟨h,-⟩)
  ·exact h
  ·cases h
end
end Go.Proofs.YtlidiclfpklliaaGreatDoor
namespace Go.Aq.Fy
open Go.Aq Go.RowKit
theorem view_F0 (n r m:Nat) (k:Int):viewF (F0 n r m k)=[]:=rfl
theorem do_fresh {n r m:Nat} (hb:fmtOk n (r:Int) (m:Int)) (hn:n≤4096) (k:Int) (cs:List ChangeD):FInv 2 (doF (F0 n r m k) cs).1∧(((doF (F0 n r m k) cs).2≠0∧viewF (doF (F0 n r m k) cs).1=[])∨((doF (F0 n r m k) cs).2=0∧(allV [] cs).2=0∧viewF (doF (F0 n r m k) cs).1=(allV [] cs).1)):=by
 have h:=do_law (fmt_inv hb hn k) (by decide) rfl cs
 refine⟨h.1,?_⟩
 rcases h.2.2.2.2.2 with ⟨h1,h2,-⟩ | ⟨h1,h2,h3,-⟩
 ·exact .inl ⟨h1,by rw[h2];exact view_F0 n r m k⟩
 ·exact .inr ⟨h1,h2,h3⟩
theorem do_nil {n r m:Nat} (hb:fmtOk n (r:Int) (m:Int)) (hn:n≤4096) (k:Int):FInv 2 (doF (F0 n r m k) []).1∧viewF (doF (F0 n r m k) []).1=[]:=by
 obtain⟨h1,h2⟩:=do_fresh hb hn k []
 refine⟨h1,?_⟩
 rcases h2 with ⟨-,h⟩ | ⟨-,-,h⟩
 ·exact h
 ·rw[h];rfl
theorem ex_put1:putS [] [] exT=([(keyD exT,exT)],keyD exT,0):=by
 unfold putS
 rw[if_neg (by rw[exT_kind];decide)]
 rfl
theorem ex_put2:putS [] [(keyD exT,exT)] exT=([(keyD exT,exT)],keyD exT,0):=by
 unfold putS thereS
 rw[if_neg (by rw[exT_kind];decide)]
 simp[lookK]
end Go.Aq.Fy
namespace Go.Proofs.YtlidiclfpklliaaGreatDoor
open Go.RowKit Go.Aq Go.Aq.Fy Go.Maps
theorem beside {w w':World} {Sd:List Nat} {f d l bf p bm:Nat} {F:FsD} (h:FsR w Sd [] f d l bf F) (c:Chg [] w w') (hp:w.heap.size≤p∧w.heap.size≤bm):FsR w' Sd [p,bm] f d l bf F:=
 (h.wideX (X':=[p,bm]) (fun k hk=>by
  simp only[List.mem_cons,List.not_mem_nil,or_false] at hk
  rcases hk with rfl | rfl
  ·exact .inr hp.1
  ·exact .inr hp.2)).chg0 c
theorem beside_put {w w':World} {Sd:List Nat} {f d l bf p bm:Nat} {F:FsD} {st:View} (h:FsR w Sd [p,bm] f d l bf F) (hS:StgR w p bm st) (c:Chg [bm] w w'):FsR w' Sd [p,bm] f d l bf F:=
 h.farU ⟨c.mono (fun k hk=>.inl (by simp at hk;simp[hk])),fun k hk=>.inl hk⟩ hS.noU8
set_option maxRecDepth 100000 in
theorem first18_ok (w:World) (hT:Tabs w):Calls Tryz.prog 7 #[] w fun e w'=>e=.returned (.bool true)∧Chg [] w w':=by
 have hmd:=made18_nil w 60 8 4 (by unfold fmtOk;decide) (by decide)
 have HT:=zH hT
 clear hT
 go_enter Tryz.func7,Tryz.ntmps7
 go_wp2_with fail
 refine hmd.mono ?_
 rintro e w1 ⟨c1,f,d,l,bf,Sd,F,k,rfl,hFe,hF,hnw,-⟩
 obtain⟨hI,hV⟩:=do_nil (n:=60) (r:=8) (m:=4) (by unfold fmtOk;decide) (by decide) k
 rw[←hFe] at hI hV
 have HF:=zC hF hI hV c1
 have hns:=newStage_ok w1
 clear hmd hFe hF hI hV c1 hnw
 go_wp2_with fail
 refine hns.mono ?_
 rintro e w2 ⟨p,bm,rfl,hS,hp,c2⟩
 have hF2:=beside HF.out.1 c2 hp
 have HS:=zB hS hF2 (HF.out.2.2.2.nil c2)
 have HBM:Hid (w.heap.size≤bm):=Nat.le_trans HF.out.2.2.2.size hp.2
 clear hns hS hF2 hp c2
 go_wp2_with fail
 have c3:Chg [] w2 (w2.alloc (.cells #[.int .u8 1,.int .u8 82,.int .u8 0,.int .u8 1,.int .u8 0,.int .u8 1,.int .u8 1,.int .u8 8,.int .u8 7] 5)):=(Chg.refl _ _).alloc _
 have eB:(#[.int .u8 1,.int .u8 82,.int .u8 0,.int .u8 1,.int .u8 0,.int .u8 1,.int .u8 1,.int .u8 8,.int .u8 7]:Array Value).toList=Bs exT:=rfl
 have hs3:Sees (w2.alloc (.cells #[.int .u8 1,.int .u8 82,.int .u8 0,.int .u8 1,.int .u8 0,.int .u8 1,.int .u8 1,.int .u8 8,.int .u8 7] 5)) 1 (.slice (some ⟨w2.heap.size,0,none⟩) 9 9) 9 (Bs exT):=by rw[←eB];exact Sees.row (Blk.new w2 #[.int .u8 1,.int .u8 82,.int .u8 0,.int .u8 1,.int .u8 0,.int .u8 1,.int .u8 1,.int .u8 8,.int .u8 7] 5) (m:=9) rfl
 have hlt3:w2.heap.size<(w2.alloc (.cells #[.int .u8 1,.int .u8 82,.int .u8 0,.int .u8 1,.int .u8 0,.int .u8 1,.int .u8 1,.int .u8 8,.int .u8 7] 5)).heap.size:=by simp
 generalize w2.alloc (.cells #[.int .u8 1,.int .u8 82,.int .u8 0,.int .u8 1,.int .u8 0,.int .u8 1,.int .u8 1,.int .u8 8,.int .u8 7] 5)=w3 at *
 have h1:=HF.out.2.1
 have hp1:=sput_ok w3 (HT.out.chg (HS.out.2.2.nil c3)) Sd [p,bm] f d l bf F (HS.out.2.1.chg0 c3) HF.out.2.1 p bm [] (HS.out.1.chg0 c3) (by simp) _ exT hs3 (by decide)
 rw[HF.out.2.2.1,ex_put1] at hp1
 obtain⟨ky,hky⟩:∃ky,keyD exT=ky:=⟨_,rfl⟩
 have hkl:ky.length≤1000000:=by rw[←hky,keyD_len];decide
 have he2:=ex_put2
 rw[hky] at hp1 he2
 have HK:=zE hs3 (HS.out.2.2.nil c3) (HS.out.1.chg0 c3) (HS.out.2.1.chg0 c3) he2 hlt3
 clear eB hs3 c3 h1 hky he2 hlt3
 refine hp1.mono ?_
 rintro e w4 ⟨rfl,hS4,c4⟩
 have hF4:=beside_put HK.out.2.2.2.1 HK.out.2.2.1 c4
 have hbmw:w.heap.size≤bm:=HBM.out
 have c4w:Chg [] w w4:=HK.out.2.1.trans c4 (fun k hk=>by simp at hk;right;omega)
 have hs4:=HK.out.1.chg c4 (fun k hk hk'=>by
  simp[eyes] at hk
  simp at hk'
  have h1:=HS.out.1.fresh.lt
  omega)
 have hp2:=sput_ok w4 (HT.out.chg c4w) Sd [p,bm] f d l bf F hF4 HF.out.2.1 p bm _ hS4 (by simp) _ exT hs4 (by decide)
 rw[HF.out.2.2.1,HK.out.2.2.2.2.1] at hp2
 have H4:=zA c4w hS4
 clear hp1 hS4 hF4 hbmw c4w hs4 c4
 go_wp2_with fail
 refine hp2.mono ?_
 rintro e w5 ⟨rfl,hS5,c5⟩
 have c5w:Chg [] w w5:=H4.out.1.trans c5 (fun k hk=>.inr (by rw[List.mem_singleton.1 hk];exact HBM.out))
 have hl5:=slen_ok w5 p bm _ hS5
 have h5:=fun w' (c:Chg [] w5 w')=>schanges_ok w' p bm _ (hS5.chg0 c) (by simp) (fun q hq=>by simp at hq;rw[hq];show exT.length≤1000000;decide)
 have H5:=zA c5w h5
 have q4:((str ky).toList==(str ky).toList)=true:=by simp
 clear hp2 hS5 c5w c5 h5
 go_wp2_with fail
 refine hl5.mono ?_
 rintro e w6 ⟨rfl,c6⟩
 have hc6:=H5.out.2 w6 c6
 have H6:=zH (H5.out.1.nil c6)
 clear hl5 c6
 go_wp2_with fail
 refine hc6.mono ?_
 rintro e w7 ⟨v7,xs,rfl,hs7,-,c7⟩
 obtain⟨ao7,cap7,rfl,-⟩:=hs7.shape
 have hpl:=splace_ok w7 [120] (by decide)
 have e120:str [120]=⟨#[120]⟩:=rfl
 rw[e120] at hpl
 have q5:((str (placeS [120])).toList==[111,120])=true:=by rw[str_toList];rfl
 have H7:=zH (H6.out.nil c7)
 have el:(changesS [(ky,exT)]).length=1:=rfl
 rw[el]
 clear hc6 hs7 c7 el e120
 go_wp2_with fail
 refine hpl.mono ?_
 rintro e w8 ⟨rfl,c8⟩
 have H8:=zH (H7.out.nil c8)
 clear hpl c8
 go_wp2_with fail
 go_ret
 exact⟨by simp only[q5];rfl,H8.out⟩
end Go.Proofs.YtlidiclfpklliaaGreatDoor
namespace Go.Aq.Fy
def FewT (ls:List Nat):Prop:=ls.length≤60∧∀c∈ls,c≤20000
def fewTI (cs:List Nat) (i n:Nat):Prop:=n≤80000∧∀c∈cs.take i,min c 20001≤n
theorem fewTI_step {cs:List Nat} {i n:Nat} (h:fewTI cs i n) (hi:i<cs.length) {c:Nat} (hc:cs[i]=c):fewTI cs (i+1) (min (n+min c 20001) 80000):=by
 obtain⟨ha,hb⟩:=h
 refine⟨by omega,fun x hx=>?_⟩
 rw[List.take_succ_eq_append_getElem hi,hc] at hx
 rcases List.mem_append.1 hx with hx | hx
 ·have h5:=hb x hx
  omega
 ·rw[List.mem_singleton.1 hx]
  omega
theorem fewTI_end {cs:List Nat} {i n:Nat} (h:fewTI cs i n) (hi:i=min cs.length 60) (h1:cs.length≤60) (h2:n≤20000):FewT cs:=by
 refine⟨h1,fun c hc=>?_⟩
 obtain⟨-,hb⟩:=h
 rw[List.take_of_length_le (by omega)] at hb
 have h5:=hb c hc
 omega
end Go.Aq.Fy
namespace Go.Proofs.YtlidiclfpklliaaGreatDoor
open Go.RowKit Go.Aq Go.Aq.Fy Go.Maps
set_option maxRecDepth 100000 in
theorem texts18_ok (w:World) (cs:List Nat) (v:Value) (xs:List Value) (hv:Sees w 1 v cs.length xs)
  (hx:∀i (h:i<cs.length),∃ao cap,xs[i]?=some (.slice ao cs[i] cap)):
  Calls Tryz.prog 8 #[v] w fun e w'=>∃b:Bool,e=.returned (.bool b)∧(b=true→FewT cs)∧Chg [] w w':=by
 obtain⟨ao,cap,rfl,hcap,-⟩:=hv.shape
 obtain⟨N,hN⟩:∃N,cs.length=N:=⟨_,rfl⟩
 rw[hN] at hv
 obtain⟨M,hM⟩:∃M,min N 60=M:=⟨_,rfl⟩
 have HH:=zC hv hx hN (show min cs.length 60=M by rw[hN];exact hM)
 have hM40:M≤60∧M≤N:=by omega
 rw[hN] at hcap ⊢
 clear hv hx hN
 go_enter Tryz.func8,Tryz.ntmps8
 go_wp2_with fail
 go_loopg [3,4] M (fun kk (v3 v4:Value) wr=>∃(i n:Nat),v4=.int .i64 i∧v3=.int .i64 n∧Hid (i+kk=M∧fewTI cs i n∧Chg [] w wr))
 case atStart=>exact⟨0,0,rfl,rfl,Nat.zero_add _,⟨Nat.zero_le _,fun c hc=>by simp at hc⟩,Chg.refl _ _⟩
 case round=>
  obtain⟨i,n,rfl,rfl,HJ⟩:=hrel
  by_cases hi:i<M
  ·have hiN:i<N:=by omega
   have t0:decide ((i:Int)<(N:Int))=true:=by simp;omega
   have t0':decide (i<N)=true:=by simp;omega
   have t1:decide ((i:Int)<60)=true:=by simp;omega
   have t1':decide (i<60)=true:=by simp;omega
   obtain⟨hik,hfi,cw⟩:=HJ.out
   have hn28:=hfi.1
   have hil:i<cs.length:=by rw[HH.out.2.2.1];exact hiN
   obtain⟨c,hc⟩:∃c,cs[i]'hil=c:=⟨_,rfl⟩
   obtain⟨ad,cd,y3⟩:=HH.out.2.1 i hil
   rw[hc] at y3
   obtain⟨g1,o1,cp1,e,-,hcell⟩:=(HH.out.1.chg0 cw).at1 (by omega)
   cases e
   have z3:=hcell i hiN
   rw[y3] at z3
   have e2:wrap64 ((i:Int)+1)=((i+1:Nat):Int):=by unfold wrap64;omega
   have hstep:=fewTI_step hfi hil hc
   have hq:=lg1 hik hi
   have HQ:=zB hq cw hstep
   have hmin:min ((n:Int)+min (c:Int) 20001) 80000=((min (n+min c 20001) 80000:Nat):Int):=by omega
   have hw1:wrap64 ((n:Int)+min (c:Int) 20001)=(n:Int)+min (c:Int) 20001:=by unfold wrap64;omega
   clear hik hfi cw hil hc y3 hstep hq hcell
   have e2w:=wIq e2
   have hw1':=wIq hw1
   have HM:=zH hmin
   clear hmin
   go_wp2_with fail
   go_roundg (gk - 1)
   case measure=>exact HQ.out.1.2
   case rel=>exact⟨i+1,_,by simp,by rw[HM.out],HQ.out.1.1,HQ.out.2.2,HQ.out.2.1⟩
  ·obtain⟨hik,hfi,cw⟩:=HJ.out
   have hiM:i=M:=lg2 hik hi
   have hn28:=hfi.1
   by_cases h40:N≤60
   ·have hiN:i=N:=by omega
    have t0:decide ((i:Int)<(N:Int))=false:=by simp;omega
    have t0':decide (i<N)=false:=by simp;omega
    have t1:decide ((N:Int)≤60)=true:=by simp;omega
    have t1':decide (N≤60)=true:=by simp;omega
    by_cases h7:n≤20000
    ·have t2:decide ((n:Int)≤20000)=true:=by simp;omega
     have t2':decide (n≤20000)=true:=by simp;omega
     have hfew:FewT cs:=fewTI_end hfi (by rw[hiM];exact HH.out.2.2.2.symm) (by rw[HH.out.2.2.1];exact h40) h7
     clear h7 h40 hiN hi hik hfi hiM
     go_wp2_with fail
     go_ret
     exact⟨true,rfl,fun _=>hfew,cw⟩
    ·have t2:decide ((n:Int)≤20000)=false:=by simp;omega
     have t2':decide (n≤20000)=false:=by simp;omega
     clear h7 h40 hiN hi hik hfi hiM
     go_wp2_with fail
     go_ret
     exact⟨false,rfl,fun h=>(by cases h),cw⟩
   ·have hi4:i=60:=by omega
    have t0:decide ((i:Int)<(N:Int))=true:=by simp;omega
    have t0':decide (i<N)=true:=by simp;omega
    have t3:decide ((i:Int)<60)=false:=by simp;omega
    have t3':decide (i<60)=false:=by simp;omega
    have t1:decide ((N:Int)≤60)=false:=by simp;omega
    have t1':decide (N≤60)=false:=by simp;omega
    clear h40 hi4 hi hik hfi hiM
    go_wp2_with fail
    go_ret
    exact⟨false,rfl,fun h=>(by cases h),cw⟩
end Go.Proofs.YtlidiclfpklliaaGreatDoor
namespace Go.Aq.Fy
open Go.Aq Go.RowKit
def sizeF (F:FsD) (s:Nm):Int:=match lookK s F.files with | some x=>(x.size:Int) | none=> -1
theorem twins_size {q:Nat} {F:FsD} (hI:FInv q F) {s:Nm} {ot:Sec}:
  (viewF F=[]→sizeF F s= -1)∧(viewF F=[(s,ot)]→sizeF F s=(ot.length:Int)):=by
 unfold sizeF
 have hl:=look_viewS F s
 refine⟨fun h=>?_,fun h=>?_⟩
 ·rw[h] at hl
  cases hx:lookK s F.files with
  | none=>rfl
  | some x=>rw[hx] at hl;cases hl
 ·rw[h] at hl
  cases hx:lookK s F.files with
  | none=>rw[hx] at hl;simp[lookK] at hl
  | some x=>
   rw[hx] at hl
   have h1:=(hI.at (look_mem hx)).2.2.2.2.2.1
   simp[lookK] at hl
   show (x.size:Int)=ot.length
   rw[←h1,←hl]
end Go.Aq.Fy
namespace Go.Proofs.YtlidiclfpklliaaGreatDoor
section
open Go.RowKit Go.Aq Go.Aq.Fy Go.Maps
set_option maxRecDepth 100000 in
theorem twins_any (w:World) (hT:Tabs w) (va vb:Value) (b ot:Sec) (n m:Nat) (hn:b.length=n) (hm:ot.length=m) (ha:Sees w 1 va n (Bs b)) (hb:Sees w 1 vb m (Bs ot)):
  Calls Tryz.prog 5 #[va,vb] w fun e w'=>e=.returned (.bool true)∧Chg [] w w':=by
 obtain⟨aoa,capa,rfl,hcapa,-⟩:=ha.shape
 obtain⟨aob,capb,rfl,hcapb,-⟩:=hb.shape
 have hf0:=first18_ok w hT
 have HH:=zD hT hn hm ha hb
 clear hT hn hm ha hb
 go_enter Tryz.func5,Tryz.ntmps5
 go_wp2_with fail
 refine hf0.mono ?_
 rintro e w1 ⟨rfl,c1⟩
 have H1:=zH c1
 clear hf0 c1
 go_wp2_with fail
 have c2:Chg [] w1 (w1.alloc (.cells #[.slice aoa n capa,.slice aob m capb] 36)):=(Chg.refl _ _).alloc _
 have hs2:Sees (w1.alloc (.cells #[.slice aoa n capa,.slice aob m capb] 36)) 1 (.slice (some ⟨w1.heap.size,0,none⟩) 2 2) 2 [.slice aoa n capa,.slice aob m capb]:=Sees.row (Blk.new w1 #[.slice aoa n capa,.slice aob m capb] 36) (m:=2) rfl
 generalize w1.alloc (.cells #[.slice aoa n capa,.slice aob m capb] 36)=w2 at *
 generalize w1.heap.size=p1 at *
 have hfi:∀w',Chg [] w w'→Calls Tryz.prog 7 #[] w' fun e w''=>e=.returned (.bool true)∧Chg [] w' w'':=fun w' c=>first18_ok w' (HH.out.1.chg c)
 have htx:=texts18_ok w2 [n,m] _ _ hs2 (fun i hi=>by
  have:i<2:=hi
  match i,this with
  | 0,_=>exact⟨aoa,capa,rfl⟩
  | 1,_=>exact⟨aob,capb,rfl⟩)
 have H2:=zA (H1.out.nil c2) hfi
 clear c2 hs2 hfi
 refine htx.mono ?_
 rintro e w3 ⟨fw,rfl,hfw,c3⟩
 have c3w:=H2.out.1.nil c3
 cases fw with
 | false=>
  have hf3:=H2.out.2 w3 c3w
  have H3:=zH c3w
  clear htx hfw c3 c3w
  go_wp2_with fail
  refine hf3.mono ?_
  rintro e w4 ⟨rfl,c4⟩
  have H4:=zH (H3.out.nil c4)
  clear hf3 c4
  go_wp2_with fail
  go_ret
  exact⟨rfl,H4.out⟩
 | true=>
  obtain⟨-,hle⟩:=hfw rfl
  have hn20:n≤20000:=hle n (by simp)
  have hm20:m≤20000:=hle m (by simp)
  have hk3:=rkindO_any w3 _ b n HH.out.2.1 (HH.out.2.2.2.1.chg0 c3w) (by omega)
  obtain⟨K,hK⟩:∃K,kindO b=K:=⟨_,rfl⟩
  rw[hK] at hk3
  have H3:=zC c3w hn20 hm20 hK
  clear htx hfw c3 c3w hle hn20 hm20 hK
  go_wp2_with fail
  refine hk3.mono ?_
  rintro e w4 ⟨rfl,c4⟩
  have c4w:=H3.out.1.nil c4
  by_cases hk0:K=0
  ·subst hk0
   have q1:(((0:Nat):Int)==0)=true:=by decide
   have hf4:=H2.out.2 w4 c4w
   have H4:=zH c4w
   clear hk3 c4 c4w
   go_wp2_with fail
   refine hf4.mono ?_
   rintro e w5 ⟨rfl,c5⟩
   have H5:=zH (H4.out.nil c5)
   clear hf4 c5
   go_wp2_with fail
   go_ret
   exact⟨rfl,H5.out⟩
  ·have q1:((K:Int)==0)=false:=by simp;omega
   have q1':(K==0)=false:=by simp;omega
   have hr4:=refKey_any w4 _ m ot (HH.out.2.2.2.2.chg0 c4w) (by have:=H3.out.2.2.1;omega)
   obtain⟨k,hkd⟩:∃k,hexL (Sha.sum b)=k:=⟨_,rfl⟩
   obtain⟨ko,hko⟩:∃k,hexL (Sha.sum ot)=k:=⟨_,rfl⟩
   rw[hko] at hr4
   have HK:=zB hk0 (show keyD b=k from hkd) (show keyD ot=ko from hko)
   have H4:=zH (And.intro c4w (fun (w':World) (c:Chg [] w w')=>(show Calls Tryz.prog 32 #[.slice aoa n capa] w' (fun e w''=>e=.returned (.string (str k))∧Chg [] w' w'') from by
    rw[←hkd];exact refKey_any w' _ n b (HH.out.2.2.2.1.chg0 c) (by have:=H3.out.2.1;omega))))
   clear hk3 c4 c4w hk0 hkd hko
   go_wp2_with fail
   refine hr4.mono ?_
   rintro e w5 ⟨rfl,c5⟩
   have hr5:=H4.out.2 w5 (H4.out.1.nil c5)
   have H5:=zH (H4.out.1.nil c5)
   clear hr4 c5
   go_wp2_with fail
   refine hr5.mono ?_
   rintro e w6 ⟨rfl,c6⟩
   have c6w:=H5.out.nil c6
   by_cases hkk:ko=k
   ·subst hkk
    have q2:((str ko).toList==(str ko).toList)=true:=by simp
    have hf6:=H2.out.2 w6 c6w
    have H6:=zH c6w
    clear hr5 c6 c6w
    go_wp2_with fail
    refine hf6.mono ?_
    rintro e w7 ⟨rfl,c7⟩
    have H7:=zH (H6.out.nil c7)
    clear hf6 c7
    go_wp2_with fail
    go_ret
    exact⟨rfl,H7.out⟩
   ·have q2:((str ko).toList==(str k).toList)=false:=by
     rw[str_toList,str_toList];simp[hkk]
    have hr6:=H4.out.2 w6 c6w
    have hkl:k.length=64:=by rw[←HK.out.2.1];exact keyD_len b
    have H6:=zB c6w hkk hkl
    clear hr5 c6 c6w hkk
    go_wp2_with fail
    refine hr6.mono ?_
    rintro e w7 ⟨rfl,c7⟩
    have c7w:=H6.out.1.nil c7
    have hcat:=fun w=>run_catS (P:=Tryz.prog) (str_place k) (by simp[str_size,hkl];decide) w
    have H7:=zH c7w
    clear hr6 c7 c7w hkl
    go_wp2_with fail
    have c8:Chg [] w7 (w7.alloc (.cells #[.int .i64 2,.string (str (placeS k)),.string ⟨#[]⟩,.slice aob m capb] 63)):=(Chg.refl _ _).alloc _
    have hs8:Sees (w7.alloc (.cells #[.int .i64 2,.string (str (placeS k)),.string ⟨#[]⟩,.slice aob m capb] 63)) 4 (.slice (some ⟨w7.heap.size,0,none⟩) 1 1) 1 [.int .i64 2,.string (str (placeS k)),.string ⟨#[]⟩,.slice aob m capb]:=Sees.rowsY (Blk.new w7 #[.int .i64 2,.string (str (placeS k)),.string ⟨#[]⟩,.slice aob m capb] 63) (m:=1) (s:=4) rfl
    generalize w7.alloc (.cells #[.int .i64 2,.string (str (placeS k)),.string ⟨#[]⟩,.slice aob m capb] 63)=w8 at *
    generalize w7.heap.size=p7 at *
    have c8w:=H7.out.nil c8
    obtain⟨cs,hcs⟩:∃cs:List ChangeD,[⟨2,placeS k,[],ot⟩]=cs:=⟨_,rfl⟩
    have hx8:CellsC w8 cs [.int .i64 2,.string (str (placeS k)),.string ⟨#[]⟩,.slice aob m capb]:=by
     rw[←hcs]
     refine CellsC.cons ?_ .nil
     rw[show ot.length=m from HH.out.2.2.1]
     exact HH.out.2.2.2.2.chg0 c8w
    have hs8':Sees w8 4 (.slice (some ⟨p7,0,none⟩) 1 1) cs.length [.int .i64 2,.string (str (placeS k)),.string ⟨#[]⟩,.slice aob m capb]:=by rw[←hcs];exact hs8
    have hmd:=made18_ok w8 300 30 20 (by unfold fmtOk;decide) (by decide) _ _ cs hs8' hx8 (fun _=>True) (fun w' c=>(few_ok w' cs _ _ (hs8'.chg0 c) (hx8.chg0 c)).mono (by
     rintro e w'' ⟨fb,h1,h2,h3⟩
     exact⟨fb,h1,⟨trivial,h2⟩,h3⟩))
    have H8:=zA c8w hcs
    clear c8 hs8 c8w hcs hx8 hs8'
    refine hmd.mono ?_
    rintro e w9 (⟨-,c9,f,d,l,bf,Sd,F,kk,rfl,hFe,hF,hnw,-⟩ | ⟨-,rfl,c9⟩)
    ·have hdo:=do_fresh (n:=300) (r:=30) (m:=20) (by unfold fmtOk;decide) (by decide) kk cs
     rw[←hFe] at hdo
     have hns:=newStage_ok w9
     have H9:=zB (H8.out.1.nil c9) hF hdo
     clear hmd c9 hFe hF hnw hdo
     go_wp2_with fail
     refine hns.mono ?_
     rintro e w10 ⟨p,bm,rfl,hS,hp,c10⟩
     have hF10:=beside H9.out.2.1 c10 hp
     have hpl:(placeS k).length≤1048576:=by show k.length+1≤1048576;rw[H6.out.2.2];decide
     have hsz:Calls Tryz.prog 34 #[.pointer (some ⟨f,0,none⟩),.string (str (placeS k))] w10 fun e w'=>e=.returned (.int .i64 (sizeF F (placeS k)))∧Chg [] w10 w':=size_ok w10 Sd [p,bm] f d l bf F hF10 (placeS k) hpl
     have hSz:=twins_size H9.out.2.2.1 (s:=placeS k) (ot:=ot)
     obtain⟨S,hSS⟩:∃S:Int,sizeF F (placeS k)=S:=⟨_,rfl⟩
     rw[hSS] at hsz hSz
     have hbm:w.heap.size≤bm:=Nat.le_trans H9.out.1.size hp.2
     have hcase:S= -1∨(S=(m:Int)∧viewF F=[(placeS k,ot)]):=by
      rcases H9.out.2.2.2 with ⟨-,h⟩ | ⟨-,h0,h⟩
      ·exact .inl (hSz.1 h)
      ·rw[←H8.out.2] at h0 h
       rw[put_view h0] at h
       exact .inr ⟨by rw[hSz.2 h,show ot.length=m from HH.out.2.2.1],h⟩
     have H10:=zC (H9.out.1.nil c10) hF10 hS hbm
     clear hns hS hp c10 hF10 hpl hSz hSS hbm
     rcases hcase with hS1 | ⟨hS1,hV⟩
     ·subst hS1
      have q3:((-1:Int) != (m:Int))=true:=by simp
      go_wp2_with fail
      refine hsz.mono ?_
      rintro e w11 ⟨rfl,c11⟩
      have c11w:=H10.out.1.nil c11
      have hf11:=H2.out.2 w11 c11w
      have H11:=zH c11w
      clear hsz c11 c11w
      go_wp2_with fail
      refine hf11.mono ?_
      rintro e w12 ⟨rfl,c12⟩
      have H12:=zH (H11.out.nil c12)
      clear hf11 c12
      go_wp2_with fail
      go_ret
      exact⟨rfl,H12.out⟩
     ·subst hS1
      have q3:((m:Int) != (m:Int))=false:=by simp
      have q3':(m != m)=false:=by simp
      have HV:=zH hV
      clear hV
      go_wp2_with fail
      refine hsz.mono ?_
      rintro e w11 ⟨rfl,c11⟩
      have c11w:=H10.out.1.nil c11
      have htw:=twins_law (b:=b) (other:=ot) (by rw[H3.out.2.2.2];exact HK.out.1) (by rw[HK.out.2.1,HK.out.2.2];exact H6.out.2.1)
      rw[HK.out.2.1,←HV.out] at htw
      have hp11:=sput_ok w11 (HH.out.1.chg c11w) Sd [p,bm] f d l bf F (H10.out.2.1.chg0 c11) H9.out.2.2.1 p bm [] (H10.out.2.2.1.chg0 c11) (by simp) (.slice aoa n capa) b (by rw[show b.length=n from HH.out.2.1];exact HH.out.2.2.2.1.chg0 c11w) (by have:=HH.out.2.1;have:=H3.out.2.1;omega)
      rw[htw.1] at hp11
      have H11:=zC c11w (H10.out.2.1.chg0 c11) (H10.out.2.2.1.chg0 c11) htw.2
      clear hsz c11 c11w htw
      go_wp2_with fail
      refine hp11.mono ?_
      rintro e w12 ⟨rfl,hS12,c12⟩
      have hF12:=beside_put H11.out.2.1 H11.out.2.2.1 c12
      have c12w:Chg [] w w12:=H11.out.1.trans c12 (fun k hk=>.inr (by rw[List.mem_singleton.1 hk];exact H10.out.2.2.2))
      have hg12:=sget_ok w12 Sd [p,bm] f d l bf F hF12 H9.out.2.2.1 k (by rw[H6.out.2.2];decide)
      rw[H11.out.2.2.2.1] at hg12
      have H12:=zB c12w hF12 hS12
      clear hp11 hS12 c12 hF12 c12w
      go_wp2_with fail
      refine hg12.mono ?_
      rintro e w13 ⟨⟨aog,ng,capg,rfl,-,-⟩,c13⟩
      have c13w:=H12.out.1.nil c13
      have hf13:=H2.out.2 w13 c13w
      have H13:=zB c13w (H12.out.2.1.chg0 c13) (H12.out.2.2.chg0 c13)
      clear hg12 c13 c13w
      go_wp2_with fail
      refine hf13.mono ?_
      rintro e w14 ⟨rfl,c14⟩
      have hl14:=slen_ok w14 p bm [] (H13.out.2.2.chg0 c14)
      have H14:=zB (H13.out.1.nil c14) (H13.out.2.1.chg0 c14) (H13.out.2.2.chg0 c14)
      clear hf13 c14
      go_wp2_with fail
      refine hl14.mono ?_
      rintro e w15 ⟨rfl,c15⟩
      have hh15:=shave_ok w15 p bm [] (H14.out.2.2.chg0 c15) k (by rw[H6.out.2.2];decide)
      have H15:=zA (H14.out.1.nil c15) (H14.out.2.1.chg0 c15)
      clear hl14 c15
      go_wp2_with fail
      refine hh15.mono ?_
      rintro e w16 ⟨rfl,c16⟩
      have hk16:=skeys_ok w16 Sd [p,bm] f d l bf F (H15.out.2.chg0 c16) H9.out.2.2.1
      rw[H11.out.2.2.2.2] at hk16
      have H16:=zH (H15.out.1.nil c16)
      have ehv:(lookK k ([]:View)).isSome=false:=rfl
      rw[ehv]
      clear hh15 c16 ehv
      go_wp2_with fail
      refine hk16.mono ?_
      rintro e w17 ⟨v17,rfl,hF17⟩
      have hs17:Sees w17 1 v17 1 (names [k]):=hF17.own.sees
      have c17w:=H16.out.nil hF17.chg
      obtain⟨ao17,cap17,rfl,-⟩:=hs17.shape
      have H17:=zA c17w hs17
      clear hk16 hF17 c17w hs17
      go_wp2_with fail
      have c18:Chg [] w17 (w17.alloc (.cells #[.string (str k)] 9)):=(Chg.refl _ _).alloc _
      have hs18:Sees (w17.alloc (.cells #[.string (str k)] 9)) 1 (.slice (some ⟨w17.heap.size,0,none⟩) 1 1) 1 (names [k]):=Sees.row (Blk.new w17 #[.string (str k)] 9) (m:=1) rfl
      generalize w17.alloc (.cells #[.string (str k)] 9)=w18 at *
      generalize w17.heap.size=p17 at *
      have ht18:=texts_any w18 _ _ [k] [k] 1 1 rfl rfl (H17.out.2.chg0 c18) hs18 (by decide)
      have H18:=zH (H17.out.1.nil c18)
      clear c18 hs18
      refine ht18.mono ?_
      rintro e w19 ⟨rfl,c19⟩
      have H19:=zH (H18.out.nil c19)
      have ed:decide ([k]=[k])=true:=by simp
      rw[ed]
      clear ht18 c19 ed
      go_wp2_with fail
      go_ret
      exact⟨rfl,H19.out⟩
    ·have hns:=newStage_ok w9
     have H9:=zH (H8.out.1.nil c9)
     clear hmd c9
     go_wp2_with fail
     refine hns.mono ?_
     rintro e w10 ⟨p,bm,rfl,-,-,c10⟩
     have c10w:=H9.out.nil c10
     have hf10:=H2.out.2 w10 c10w
     have H10:=zH c10w
     clear hns c10 c10w
     go_wp2_with fail
     refine hf10.mono ?_
     rintro e w11 ⟨rfl,c11⟩
     have H11:=zH (H10.out.nil c11)
     clear hf10 c11
     go_wp2_with fail
     go_ret
     exact⟨rfl,H11.out⟩
end
section
open Go.RowKit Go.Aq Go.Aq.Fy
theorem twins_walk (va:Value) (n:Nat) (b:List UInt8) {w:World} (sa:Sees w 1 va n (Bs b)∧n≤9223372036854775807) (vb:Value) (m:Nat) (ot:List UInt8) (sb:Sees w 1 vb m (Bs ot)∧m≤9223372036854775807) (hT:Tabs w):
  Calls Tryz.prog 5 #[va,vb] w fun e w'=>e=.returned (.bool true)∧Chg [] w w':=
 twins_any w hT va vb b ot n m (by have:=sa.1.1;simpa[Bs] using this) (by have:=sb.1.1;simpa[Bs] using this) sa.1 sb.1
end
end Go.Proofs.YtlidiclfpklliaaGreatDoor
namespace Go.Aq
open Go.ChangeShapes Go.WideShapes Go.ChangeAt Go.RowKit
open Go.ChangeMaps (open_string shut_string)
theorem flatMap_len {α:Type} (f:α→List Value) (C:Nat) (hf:∀a,(f a).length=C):∀xs:List α,(xs.flatMap f).length=xs.length * C
 | []=>by simp
 | a::xs=>by rw[List.flatMap_cons,List.length_append,hf,flatMap_len f C hf xs,List.length_cons,Nat.add_mul];omega
theorem flatMap_get {α:Type} (f:α→List Value) (C:Nat) (hf:∀a,(f a).length=C) (hC:0<C):∀(xs:List α) (j:Nat),j<xs.length * C→(xs.flatMap f)[j]?=(xs[j / C]?).bind fun a=>(f a)[j % C]?
 | [],j,h=>by simp at h
 | a::xs,j,h=>by
  rw[List.flatMap_cons,List.getElem?_append]
  split
  ·rename_i hlt
   rw[hf] at hlt
   rw[Nat.div_eq_of_lt hlt,Nat.mod_eq_of_lt hlt]
   rfl
  ·rename_i hge
   rw[hf] at hge ⊢
   have hge':C≤j:=by omega
   have hlt:j - C<xs.length * C:=by simp only[List.length_cons,Nat.add_mul] at h;omega
   rw[flatMap_get f C hf hC xs (j - C) hlt]
   have e1:j / C=(j - C) / C+1:=by
    conv=>lhs;rw[show j=(j - C)+C by omega]
    rw[Nat.add_div_right _ hC]
   have e2:j % C=(j - C) % C:=by
    conv=>lhs;rw[show j=(j - C)+C by omega]
    rw[Nat.add_mod_right]
   rw[e1,e2]
   rfl
section
variable {H:Type} {enc:TypeId×Value→H} {P:Program} {W:World} {base:Nat} {t e:TypeId} {v:Value} {d:DataW H} {ps:List MemPlace}
theorem open_bytes_in (ht:P.underlying t=some (.slice e)) (he:P.underlying e=some (.int .u8)) (hc:P.cellsOf e=1) (hv:Value.okWide P W .any base t v) (h:DataW.Trod enc P W 0 (fun _=>true) true t v d ps):
  ∃(n:Nat) (l:List UInt8),Sees W 1 v n (Bs l)∧n≤9223372036854775807:=by
 obtain⟨a0,len0,cap0,rfl⟩:=okWide_slice ht hv
 obtain⟨fuel,hf⟩:=h
 rcases open_ints ht he hc hf with ⟨hcs,_⟩ | ⟨x,l,c,zs,hcs,_,hl,hm,hz,_,hcell,hwz⟩
 ·simp[Value.cells] at hcs
  obtain⟨rfl,rfl,rfl⟩:=hcs
  exact⟨0,[],Sees.nil _ _,Nat.zero_le _⟩
 ·simp[Value.cells] at hcs
  obtain⟨rfl,rfl,rfl⟩:=hcs
  simp only[if_true] at hz
  refine⟨len0,(zs.take len0).map fun z=>UInt8.ofNat z.toNat,⟨?_,some x,cap0,rfl,hl,by simp,?_⟩,by simp only[maxLen] at hm;omega⟩
  ·simp[Bs];omega
  ·intro ad had j u hu
   cases had
   have hj:j<len0:=by
    have:=(List.getElem?_eq_some_iff.1 hu).1
    simp[Bs] at this;omega
   rw[hcell j (by omega)]
   have hjz:j<zs.length:=by omega
   have hb:=bounds_u8 (hwz (zs[j]'hjz) (List.getElem_mem _))
   simp[Bs,Bc,hj,hjz] at hu
   rw[←hu]
   simp[List.getD,hjz]
   omega
end
end Go.Aq
namespace Go.Proofs.YtlidiclfpklliaaGreatDoor
open Go.ChangeShapes Go.WideShapes Go.ChangeAt Go.RowKit Go.Aq Go.Aq.Wd
theorem u8x:U8Extra Tryz.prog Tryz.lays260_ren:=
 ⟨by kernel_rfl,by kernel_rfl,by kernel_rfl,by kernel_rfl,by kernel_rfl,by kernel_rfl,by kernel_rfl⟩
def laidL:List (String×DataW Unit):=[("unicode/utf8.acceptRanges",Rows.laid_unicode_utf8_acceptRanges),("unicode/utf8.first",Rows.laid_unicode_utf8_first)]
theorem tabsS_of {W:World} (h:laidMet Tryz.prog laidL W) (hS:W.ShapedOpen Tryz.prog):Tabs W:=by
 have h1:=Lib.laidMet.reads h (n:= "unicode/utf8.first") (d:=Rows.laid_unicode_utf8_first) (by simp[laidL])
 have h2:=Lib.laidMet.reads h (n:= "unicode/utf8.acceptRanges") (d:=Rows.laid_unicode_utf8_acceptRanges) (by simp[laidL])
 refine⟨?_,?_,trivial⟩
 ·refine utf8Tabs_of_reads Tryz.lays260 u8x ?_ ?_
  ·rw[←Pinned.utf8First_eq];exact h1
  ·have e:Rows.laid_unicode_utf8_acceptRanges=Lib.acceptData:=by kernel_rfl
   rw[←e];exact h2
 ·exact cell_of_shapedOpen_int (zero:=#[.int .i64 0]) (t:=3) hS (of_decide_eq_true (by kernel_rfl)) (by kernel_rfl) rfl (by kernel_rfl) (by kernel_rfl) Tryz.underlying3
def lit1:DataW Unit→Value
 | .lit (.int k z)=>.int k z
 | _=>undef
def flat1:DataW Unit→List Value
 | .agg l=>l.map lit1
 | _=>[]
def flat2:DataW Unit→List Value
 | .agg l=>l.flatMap flat1
 | _=>[]
def setCells (cs:List Value):Obj→Obj
 | .cells _ t fz=>.cells cs.toArray t fz
 | o=>o
noncomputable def laidWorldS (os:Os):World:=
 { World.holding Tryz.prog os ⟨#[],#[],[]⟩ with heap:=((World.holding Tryz.prog os ⟨#[],#[],[]⟩).heap.modify 2 (setCells (flat2 Rows.laid_unicode_utf8_acceptRanges))).modify 1 (setCells (flat1 Rows.laid_unicode_utf8_first)) }
end Go.Proofs.YtlidiclfpklliaaGreatDoor
