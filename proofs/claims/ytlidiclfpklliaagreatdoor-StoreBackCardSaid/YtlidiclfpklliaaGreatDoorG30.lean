/- ObO ObP FzO FzP FzQ -/
import Derived.Test.YtlidiclfpklliaaGreatDoorObN
set_option linter.unusedSimpArgs false
set_option linter.unusedVariables false
set_option maxHeartbeats 8000000
namespace Go.Proofs.YtlidiclfpklliaaGreatDoor
open Go.RowKit Go.Aq Go.Aq.Fy
def ObjR (w:World):ObjD→Value→Prop
 | .tile s px,x=>∃pv,x=.iface 270 (rasV s pv)∧Sees w 1 pv px.length (Bs px)
 | .tree t,x=>∃v,x=.iface 271 (treeV t v)∧Sees w 1 v t.keys.length (names t.keys)
 | .comm c,x=>∃v,x=.iface 273 (commV c v)∧Sees w 1 v c.pars.length (names c.pars)
def ParsedO (w:World):Option ObjD→Value→Prop
 | none,x=>x=.nilIface
 | some o,x=>ObjR w o x
theorem num1_cons (k:UInt8) (t:List UInt8):numR 1 ⟨k::t,false⟩=(k.toNat,⟨t,false⟩):=by
 unfold numR takeR
 rw[if_neg (by simp)]
 simp[beVal]
theorem parse_of {b:List UInt8} {o:ObjD} (h:readO b=some o):parseO b=if o.bytes=b then some o else none:=by
 unfold parseO
 rw[h]
 simp[Option.filter]
theorem method_tile (f:Nat) (w:World) (a b c d e:Value):(method (f+1) 270 (.agg #[a,b,c,d,e]) "Bytes").run Tryz.prog w=.ok (366,.agg #[a,b,c,d,e]) w:=by kernel_rfl
theorem method_tree (f:Nat) (w:World) (a b c d e:Value):(method (f+1) 271 (.agg #[a,b,c,d,e]) "Bytes").run Tryz.prog w=.ok (372,.agg #[a,b,c,d,e]) w:=by kernel_rfl
theorem method_comm (f:Nat) (w:World) (a b c d e:Value):(method (f+1) 273 (.agg #[a,b,c,d,e]) "Bytes").run Tryz.prog w=.ok (382,.agg #[a,b,c,d,e]) w:=by kernel_rfl
theorem dec_len (t:List UInt8):(decPL t).2.1.length≤t.length:=by
 unfold decPL
 split
 ·simp
 ·split
  ·simp
  ·split
   ·simp
   ·split
    ·simp
    ·simp
theorem hexL_short (n:Nat) (r:RdD) (h:n≤32):(hexL (takeR n r).1).length≤64:=by
 rw[hexL_length]
 have:=takeR_len n r
 omega
theorem keysR_short:∀(n:Nat) (r:RdD),∀k∈(keysR n r).1,k.length≤1000000
 | 0,r,k,hk=>by simp[keysR] at hk
 | n+1,r,k,hk=>by
  unfold keysR at hk
  split at hk
  ·simp at hk
  ·rcases List.mem_cons.1 hk with rfl | h
   ·have:=hexL_short 32 r (Nat.le_refl _);omega
   ·exact keysR_short n _ k h
theorem keys_le (t:List UInt8):(treeR ⟨t,false⟩).1.keys.length≤100000:=by
 have h:=keysR_len ((gridD (treeR ⟨t,false⟩).1.shp).1 * (gridD (treeR ⟨t,false⟩).1.shp).2).toNat (numR 1 (numR 1 (numR 2 (numR 2 ⟨t,false⟩).2).2).2).2
 have h2:=(mul_nat (grid_le (treeR ⟨t,false⟩).1.shp).1 (grid_le (treeR ⟨t,false⟩).1.shp).2).1
 exact Nat.le_trans h (by omega)
theorem keys_short (t:List UInt8):∀k∈(treeR ⟨t,false⟩).1.keys,k.length≤1000000:=keysR_short _ _
theorem pars_le (t:List UInt8):(commR ⟨t,false⟩).1.pars.length≤100000:=by
 have h:=keysR_len (numR 1 (takeR 32 ⟨t,false⟩).2).1 (numR 1 (takeR 32 ⟨t,false⟩).2).2
 have h2:=numR_lt 1 (takeR 32 ⟨t,false⟩).2
 exact Nat.le_trans h (by omega)
theorem pars_short (t:List UInt8):∀k∈(commR ⟨t,false⟩).1.pars,k.length≤1000000:=keysR_short _ _
theorem tree_short (t:List UInt8):(commR ⟨t,false⟩).1.tree.length≤1000000:=by
 have h:=hexL_short 32 ⟨t,false⟩ (Nat.le_refl _)
 have e:(commR ⟨t,false⟩).1.tree=hexL (takeR 32 ⟨t,false⟩).1:=rfl
 rw[e]
 omega
set_option maxRecDepth 100000 in
theorem parse_tile (w:World) (v:Value) (t:List UInt8) (n:Nat) (hn:(1::t).length=n) (hv:Sees w 1 v n (Bs (1::t))) (hb:n≤1000000):
  Calls Tryz.prog 112 #[v] w fun e w'=>∃x,e=.returned x∧ParsedO w' (parseO (1::t)) x∧Chg [] w w':=by
 obtain⟨ao,cap,rfl,-⟩:=hv.shape
 obtain⟨K,hK⟩:∃K,w.heap.size=K:=⟨_,rfl⟩
 have hlt:∀k∈eyes (Value.slice ao n cap),k<K:=fun k hk=>by rw[←hK];exact hv.lt (by decide) k hk
 have hc0:Chg [] w (w.alloc (.cells #[.slice ao n cap,.bool false] 268)):=(Chg.refl [] w).alloc _
 have hb0:Blk (w.alloc (.cells #[.slice ao n cap,.bool false] 268)) K #[.slice ao n cap,.bool false] 268:=Blk.new_at w _ _ hK
 have hr0:RdO (w.alloc (.cells #[.slice ao n cap,.bool false] 268)) K K ⟨1::t,false⟩:=⟨_,hb0,by rw[hn];exact hv.chg0 hc0,fun h=>by have:=hlt K h;omega,hlt⟩
 have hnum:=onumber_ok _ K K ⟨1::t,false⟩ 1 (by decide) (by decide) hr0 (by simp only;rw[hn];omega)
 rw[num1_cons] at hnum
 have hK1:K≤(w.alloc (.cells #[.slice ao n cap,.bool false] 268)).heap.size:=Nat.le_of_lt hb0.lt
 have HC0:=zE hc0 hn hb hK1 hK hv
 obtain⟨P,hP⟩:∃P,parseO (1::t)=P:=⟨_,rfl⟩
 rw[hP]
 have HP:=zH hP
 clear hn hv hb hlt hc0 hb0 hr0 hP hK1
 go_enter Tryz.func112,Tryz.ntmps112
 go_wp2_with fail
 generalize w.alloc (.cells #[.slice ao n cap,.bool false] 268)=w0 at *
 refine hnum.mono ?_
 rintro e w1 ⟨rfl,hr1,c1⟩
 clear hnum
 have htl:t.length≤1000000:=by have h1:=HC0.out.2.1;have h2:=HC0.out.2.2.1;rw[List.length_cons] at h1;omega
 have ct1:Chg [] w w1:=HC0.out.1.trans c1 (fun k hk=>by simp at hk;right;have:=HC0.out.2.2.2.2.1;omega)
 have hK1:Hid (K≤w1.heap.size):=Nat.le_trans HC0.out.2.2.2.1 c1.size
 have k1:((1:UInt8).toNat:Int)=1:=rfl
 have hSb:=HC0.out.2.2.2.2.2.chg0 ct1
 have HT:=zB ct1 htl hSb
 clear c1 ct1 htl hSb
 obtain⟨v1,hb1,hs1,hp1,he1⟩:=hr1
 obtain⟨ao1,cap1,rfl,-⟩:=hs1.shape
 have y0:w1.cell? ⟨K,0,none⟩=some (.slice ao1 t.length cap1):=hb1.cell 0
 have hd:=decode_pix _ _ t w1 hs1 (by have:=HT.out.2.1;simp only at this ⊢;omega)
 clear hb1 hs1 hp1 he1
 obtain⟨s,hs⟩:∃s,(decPL t).1=s:=⟨_,rfl⟩
 obtain⟨px,hpx⟩:∃px,(decPL t).2.1=px:=⟨_,rfl⟩
 obtain⟨en,hen⟩:∃en,(decPL t).2.2=en:=⟨_,rfl⟩
 have hpl:px.length≤1000000:=by have h1:=dec_len t;rw[hpx] at h1;have:=HT.out.2.1;omega
 have HR:Hid (readO (1::t)=some (.tile s px)):=by show _=_;rw[←hs,←hpx];rfl
 rw[hs,hpx,hen] at hd
 clear hs hpx hen
 have mt:=method_tile
 unfold rasV at hd
 go_wp2_with fail
 refine hd.mono ?_
 rintro e w2 ⟨v2,rfl,hs2,hn2,c2⟩
 clear hd y0
 obtain⟨ao2,cap2,rfl,-⟩:=hs2.shape
 have hHW:Chg [] w w2:=HT.out.1.nil c2
 have hSW:=HT.out.2.2.chg0 c2
 have ca:Chg [] w2 (w2.alloc (.cells #[.int .i64 s.w,.int .i64 s.h,.int .i64 s.c,.int .i64 s.d,.slice ao2 px.length cap2] 147)):=(Chg.refl [] w2).alloc _
 have hby:=ibytes_ok (w2.alloc (.cells #[.int .i64 s.w,.int .i64 s.h,.int .i64 s.c,.int .i64 s.d,.slice ao2 px.length cap2] 147)) s _ px (hs2.chg0 ca) (by omega)
 have HW:=zA (hHW.nil ca) (hSW.chg0 ca)
 have HO:Hid (∀w',Chg [] (w2.alloc (.cells #[.int .i64 s.w,.int .i64 s.h,.int .i64 s.c,.int .i64 s.d,.slice ao2 px.length cap2] 147)) w'→ObjR w' (.tile s px) (.iface 270 (rasV s (.slice ao2 px.length cap2)))):=fun w' c=>⟨_,rfl,(hs2.chg0 ca).chg0 c⟩
 unfold rasV at hby HO
 clear hs2 hn2 c2 hHW hSW ca hpl
 go_wp2_with fail
 refine hby.mono ?_
 rintro e w5 ⟨v5,rfl,hs5,c5⟩
 clear hby
 obtain⟨ao5,cap5,rfl,-⟩:=hs5.shape
 have heq:=equal_any w5 _ _ _ _ _ _ hs5 (HW.out.2.chg0 c5)
 have HV5:=zH c5
 clear hs5 c5
 by_cases hE:tileB s px=1::t
 ·rw[decide_eq_true hE] at heq
  have HE:=zH hE
  clear hE
  go_wp2_with fail
  refine heq.mono ?_
  rintro e w6 ⟨rfl,rfl⟩
  clear heq
  go_wp2_with fail
  go_ret
  refine⟨_,rfl,?_,HW.out.1.nil HV5.out⟩
  have e:P=some (.tile s px):=by rw[←HP.out,parse_of HR.out];exact if_pos HE.out
  rw[e]
  exact HO.out _ HV5.out
 ·rw[decide_eq_false hE] at heq
  have HE:=zH hE
  clear hE
  go_wp2_with fail
  refine heq.mono ?_
  rintro e w6 ⟨rfl,rfl⟩
  clear heq
  go_wp2_with fail
  go_ret
  refine⟨_,rfl,?_,HW.out.1.nil HV5.out⟩
  have e:P=none:=by rw[←HP.out,parse_of HR.out];exact if_neg HE.out
  rw[e]
  rfl
set_option maxRecDepth 100000 in
theorem parse_tree (w:World) (v:Value) (t:List UInt8) (n:Nat) (hn:(2::t).length=n) (hv:Sees w 1 v n (Bs (2::t))) (hb:n≤1000000):
  Calls Tryz.prog 112 #[v] w fun e w'=>∃x,e=.returned x∧ParsedO w' (parseO (2::t)) x∧Chg [] w w':=by
 obtain⟨ao,cap,rfl,-⟩:=hv.shape
 obtain⟨K,hK⟩:∃K,w.heap.size=K:=⟨_,rfl⟩
 have hlt:∀k∈eyes (Value.slice ao n cap),k<K:=fun k hk=>by rw[←hK];exact hv.lt (by decide) k hk
 have hc0:Chg [] w (w.alloc (.cells #[.slice ao n cap,.bool false] 268)):=(Chg.refl [] w).alloc _
 have hb0:Blk (w.alloc (.cells #[.slice ao n cap,.bool false] 268)) K #[.slice ao n cap,.bool false] 268:=Blk.new_at w _ _ hK
 have hr0:RdO (w.alloc (.cells #[.slice ao n cap,.bool false] 268)) K K ⟨2::t,false⟩:=⟨_,hb0,by rw[hn];exact hv.chg0 hc0,fun h=>by have:=hlt K h;omega,hlt⟩
 have hnum:=onumber_ok _ K K ⟨2::t,false⟩ 1 (by decide) (by decide) hr0 (by simp only;rw[hn];omega)
 rw[num1_cons] at hnum
 have hK1:K≤(w.alloc (.cells #[.slice ao n cap,.bool false] 268)).heap.size:=Nat.le_of_lt hb0.lt
 have HC0:=zE hc0 hn hb hK1 hK hv
 obtain⟨P,hP⟩:∃P,parseO (2::t)=P:=⟨_,rfl⟩
 rw[hP]
 have HP:=zH hP
 clear hn hv hb hlt hc0 hb0 hr0 hP hK1
 go_enter Tryz.func112,Tryz.ntmps112
 go_wp2_with fail
 generalize w.alloc (.cells #[.slice ao n cap,.bool false] 268)=w0 at *
 refine hnum.mono ?_
 rintro e w1 ⟨rfl,hr1,c1⟩
 clear hnum
 have htl:t.length≤1000000:=by have h1:=HC0.out.2.1;have h2:=HC0.out.2.2.1;rw[List.length_cons] at h1;omega
 have ct1:Chg [] w w1:=HC0.out.1.trans c1 (fun k hk=>by simp at hk;right;have:=HC0.out.2.2.2.2.1;omega)
 have hK1:Hid (K≤w1.heap.size):=Nat.le_trans HC0.out.2.2.2.1 c1.size
 have k1:((2:UInt8).toNat:Int)=2:=rfl
 have hSb:=HC0.out.2.2.2.2.2.chg0 ct1
 have HT:=zB ct1 htl hSb
 clear c1 ct1 htl hSb
 have hot:=otree_ok w1 K K hK1.out ⟨t,false⟩ hr1 (by have:=HT.out.2.1;simp only;omega)
 clear hr1
 obtain⟨T,hT⟩:∃T,(treeR ⟨t,false⟩).1=T:=⟨_,rfl⟩
 have hkl:=keys_le t
 rw[hT] at hot hkl
 have HR:Hid (readO (2::t)=some (.tree T)):=by show _=_;rw[←hT];rfl
 have hks:=keys_short t
 rw[hT] at hks
 clear hT
 obtain⟨ts,tk⟩:=T
 simp only at hot hkl hks
 have mt:=method_tree
 unfold treeV at hot
 go_wp2_with fail
 refine hot.mono ?_
 rintro e w2 ⟨v2,rfl,ho2,-,c2⟩
 clear hot
 have hs2:=ho2.own.sees
 obtain⟨ao2,cap2,rfl,-⟩:=hs2.shape
 have hHW:Chg [] w w2:=HT.out.1.trans c2 (fun k hk=>by simp at hk;right;have:=HC0.out.2.2.2.2.1;omega)
 have hSW:=HC0.out.2.2.2.2.2.chg0 hHW
 have hby:=tbytes_ok w2 ⟨ts,tk⟩ _ _ rfl hs2 (by omega) hks
 have HW:=zA hHW hSW
 have HO:Hid (∀w',Chg [] w2 w'→ObjR w' (.tree ⟨ts,tk⟩) (.iface 271 (treeV ⟨ts,tk⟩ (.slice ao2 tk.length cap2)))):=fun w' c=>⟨_,rfl,hs2.chg0 c⟩
 unfold treeV at hby HO
 simp only at hby HO
 clear hs2 ho2 c2 hHW hSW hkl hks
 go_wp2_with fail
 refine hby.mono ?_
 rintro e w5 ⟨v5,rfl,hs5,c5⟩
 clear hby
 obtain⟨ao5,cap5,rfl,-⟩:=hs5.shape
 have heq:=equal_any w5 _ _ _ _ _ _ hs5 (HW.out.2.chg0 c5)
 have HV5:=zH c5
 clear hs5 c5
 by_cases hE:treeB ⟨ts,tk⟩=2::t
 ·rw[decide_eq_true hE] at heq
  have HE:=zH hE
  clear hE
  go_wp2_with fail
  refine heq.mono ?_
  rintro e w6 ⟨rfl,rfl⟩
  clear heq
  go_wp2_with fail
  go_ret
  refine⟨_,rfl,?_,HW.out.1.nil HV5.out⟩
  have e:P=some (.tree ⟨ts,tk⟩):=by rw[←HP.out,parse_of HR.out];exact if_pos HE.out
  rw[e]
  exact HO.out _ HV5.out
 ·rw[decide_eq_false hE] at heq
  have HE:=zH hE
  clear hE
  go_wp2_with fail
  refine heq.mono ?_
  rintro e w6 ⟨rfl,rfl⟩
  clear heq
  go_wp2_with fail
  go_ret
  refine⟨_,rfl,?_,HW.out.1.nil HV5.out⟩
  have e:P=none:=by rw[←HP.out,parse_of HR.out];exact if_neg HE.out
  rw[e]
  rfl
set_option maxRecDepth 100000 in
theorem parse_comm (w:World) (hT:Tabs w) (v:Value) (t:List UInt8) (n:Nat) (hn:(3::t).length=n) (hv:Sees w 1 v n (Bs (3::t))) (hb:n≤1000000):
  Calls Tryz.prog 112 #[v] w fun e w'=>∃x,e=.returned x∧ParsedO w' (parseO (3::t)) x∧Chg [] w w':=by
 have HTb:=zH hT
 clear hT
 obtain⟨ao,cap,rfl,-⟩:=hv.shape
 obtain⟨K,hK⟩:∃K,w.heap.size=K:=⟨_,rfl⟩
 have hlt:∀k∈eyes (Value.slice ao n cap),k<K:=fun k hk=>by rw[←hK];exact hv.lt (by decide) k hk
 have hc0:Chg [] w (w.alloc (.cells #[.slice ao n cap,.bool false] 268)):=(Chg.refl [] w).alloc _
 have hb0:Blk (w.alloc (.cells #[.slice ao n cap,.bool false] 268)) K #[.slice ao n cap,.bool false] 268:=Blk.new_at w _ _ hK
 have hr0:RdO (w.alloc (.cells #[.slice ao n cap,.bool false] 268)) K K ⟨3::t,false⟩:=⟨_,hb0,by rw[hn];exact hv.chg0 hc0,fun h=>by have:=hlt K h;omega,hlt⟩
 have hnum:=onumber_ok _ K K ⟨3::t,false⟩ 1 (by decide) (by decide) hr0 (by simp only;rw[hn];omega)
 rw[num1_cons] at hnum
 have hK1:K≤(w.alloc (.cells #[.slice ao n cap,.bool false] 268)).heap.size:=Nat.le_of_lt hb0.lt
 have HC0:=zE hc0 hn hb hK1 hK hv
 obtain⟨P,hP⟩:∃P,parseO (3::t)=P:=⟨_,rfl⟩
 rw[hP]
 have HP:=zH hP
 clear hn hv hb hlt hc0 hb0 hr0 hP hK1
 go_enter Tryz.func112,Tryz.ntmps112
 go_wp2_with fail
 generalize w.alloc (.cells #[.slice ao n cap,.bool false] 268)=w0 at *
 refine hnum.mono ?_
 rintro e w1 ⟨rfl,hr1,c1⟩
 clear hnum
 have htl:t.length≤1000000:=by have h1:=HC0.out.2.1;have h2:=HC0.out.2.2.1;rw[List.length_cons] at h1;omega
 have ct1:Chg [] w w1:=HC0.out.1.trans c1 (fun k hk=>by simp at hk;right;have:=HC0.out.2.2.2.2.1;omega)
 have hK1:Hid (K≤w1.heap.size):=Nat.le_trans HC0.out.2.2.2.1 c1.size
 have k1:((3:UInt8).toNat:Int)=3:=rfl
 have hSb:=HC0.out.2.2.2.2.2.chg0 ct1
 have HT:=zB ct1 htl hSb
 clear c1 ct1 htl hSb
 have hot:=ocomm_ok w1 K K hK1.out ⟨t,false⟩ hr1 (by have:=HT.out.2.1;simp only;omega)
 clear hr1
 obtain⟨T,hT⟩:∃T,(commR ⟨t,false⟩).1=T:=⟨_,rfl⟩
 have hkl:=pars_le t
 have hsh:=commR_short ⟨t,false⟩
 have hks:=pars_short t
 have htr:=tree_short t
 rw[hT] at hot hkl hks hsh htr
 have HR:Hid (readO (3::t)=some (.comm T)):=by show _=_;rw[←hT];rfl
 clear hT
 obtain⟨tt,tp,ts,ta,tx⟩:=T
 simp only at hot hkl hks hsh htr
 have mt:=method_comm
 unfold commV at hot
 go_wp2_with fail
 refine hot.mono ?_
 rintro e w2 ⟨v2,rfl,ho2,-,c2⟩
 clear hot
 have hs2:=ho2.own.sees
 obtain⟨ao2,cap2,rfl,-⟩:=hs2.shape
 have hHW:Chg [] w w2:=HT.out.1.trans c2 (fun k hk=>by simp at hk;right;have:=HC0.out.2.2.2.2.1;omega)
 have hSW:=HC0.out.2.2.2.2.2.chg0 hHW
 have hby:=cbytes_ok w2 (HTb.out.chg hHW) ⟨tt,tp,ts,ta,tx⟩ _ _ rfl hs2 (by omega) hks htr hsh.1 hsh.2
 have HW:=zA hHW hSW
 have HO:Hid (∀w',Chg [] w2 w'→ObjR w' (.comm ⟨tt,tp,ts,ta,tx⟩) (.iface 273 (commV ⟨tt,tp,ts,ta,tx⟩ (.slice ao2 tp.length cap2)))):=fun w' c=>⟨_,rfl,hs2.chg0 c⟩
 unfold commV at hby HO
 simp only at hby HO
 clear hs2 ho2 c2 hHW hSW hkl hks hsh htr
 go_wp2_with fail
 refine hby.mono ?_
 rintro e w5 ⟨v5,rfl,hs5,c5⟩
 clear hby
 obtain⟨ao5,cap5,rfl,-⟩:=hs5.shape
 have heq:=equal_any w5 _ _ _ _ _ _ hs5 (HW.out.2.chg0 c5)
 have HV5:=zH c5
 clear hs5 c5
 by_cases hE:commB ⟨tt,tp,ts,ta,tx⟩=3::t
 ·rw[decide_eq_true hE] at heq
  have HE:=zH hE
  clear hE
  go_wp2_with fail
  refine heq.mono ?_
  rintro e w6 ⟨rfl,rfl⟩
  clear heq
  go_wp2_with fail
  go_ret
  refine⟨_,rfl,?_,HW.out.1.nil HV5.out⟩
  have e:P=some (.comm ⟨tt,tp,ts,ta,tx⟩):=by rw[←HP.out,parse_of HR.out];exact if_pos HE.out
  rw[e]
  exact HO.out _ HV5.out
 ·rw[decide_eq_false hE] at heq
  have HE:=zH hE
  clear hE
  go_wp2_with fail
  refine heq.mono ?_
  rintro e w6 ⟨rfl,rfl⟩
  clear heq
  go_wp2_with fail
  go_ret
  refine⟨_,rfl,?_,HW.out.1.nil HV5.out⟩
  have e:P=none:=by rw[←HP.out,parse_of HR.out];exact if_neg HE.out
  rw[e]
  rfl
set_option maxRecDepth 100000 in
theorem parse_other (w:World) (v:Value) (b:List UInt8) (n:Nat) (hn:b.length=n) (hv:Sees w 1 v n (Bs b)) (hb:n≤1000000) (k:Nat) (hk:(numR 1 ⟨b,false⟩).1=k) (k1:k≠1) (k2:k≠2) (k3:k≠3):
  Calls Tryz.prog 112 #[v] w fun e w'=>e=.returned .nilIface∧Chg [] w w':=by
 obtain⟨ao,cap,rfl,-⟩:=hv.shape
 obtain⟨K,hK⟩:∃K,w.heap.size=K:=⟨_,rfl⟩
 have hlt:∀k∈eyes (Value.slice ao n cap),k<K:=fun k hk=>by rw[←hK];exact hv.lt (by decide) k hk
 have hc0:Chg [] w (w.alloc (.cells #[.slice ao n cap,.bool false] 268)):=(Chg.refl [] w).alloc _
 have hb0:Blk (w.alloc (.cells #[.slice ao n cap,.bool false] 268)) K #[.slice ao n cap,.bool false] 268:=Blk.new_at w _ _ hK
 have hr0:RdO (w.alloc (.cells #[.slice ao n cap,.bool false] 268)) K K ⟨b,false⟩:=⟨_,hb0,by rw[hn];exact hv.chg0 hc0,fun h=>by have:=hlt K h;omega,hlt⟩
 have hnum:=onumber_ok _ K K ⟨b,false⟩ 1 (by decide) (by decide) hr0 (by simp only;rw[hn];omega)
 rw[hk] at hnum
 have d1:((k:Int)==1)=false:=by simp;omega
 have d2:((k:Int)==2)=false:=by simp;omega
 have d3:((k:Int)==3)=false:=by simp;omega
 have HC0:=zA hc0 hK
 clear hn hv hb hlt hc0 hb0 hr0 hk k1 k2 k3
 go_enter Tryz.func112,Tryz.ntmps112
 go_wp2_with fail
 generalize w.alloc (.cells #[.slice ao n cap,.bool false] 268)=w0 at *
 refine hnum.mono ?_
 rintro e w1 ⟨rfl,-,c1⟩
 clear hnum
 have HT:=zH (HC0.out.1.trans c1 (fun k hk=>by simp at hk;right;have:=HC0.out.2;omega))
 clear c1
 go_wp2_with fail
 go_ret
 exact⟨rfl,HT.out⟩
theorem oparse_ok (w:World) (hT:Tabs w) (v:Value) (b:List UInt8) (hv:Sees w 1 v b.length (Bs b)) (hb:b.length≤1000000):
  Calls Tryz.prog 112 #[v] w fun e w'=>∃x,e=.returned x∧ParsedO w' (parseO b) x∧Chg [] w w':=by
 have other:∀k,(numR 1 ⟨b,false⟩).1=k→k≠1→k≠2→k≠3→readO b=none→Calls Tryz.prog 112 #[v] w fun e w'=>∃x,e=.returned x∧ParsedO w' (parseO b) x∧Chg [] w w':=by
  intro k hk k1 k2 k3 hr
  refine (parse_other w v b _ rfl hv hb k hk k1 k2 k3).mono ?_
  rintro e w' ⟨rfl,c⟩
  refine⟨_,rfl,?_,c⟩
  have e:parseO b=none:=by unfold parseO;rw[hr];rfl
  rw[e]
  rfl
 match b,hv,hb,other with
 | [],hv,hb,other=>exact other 0 rfl (by decide) (by decide) (by decide) rfl
 | k::t,hv,hb,other=>
  by_cases h1:k=1
  ·subst h1;exact parse_tile w v t _ rfl hv hb
  ·by_cases h2:k=2
   ·subst h2;exact parse_tree w v t _ rfl hv hb
   ·by_cases h3:k=3
    ·subst h3;exact parse_comm w hT v t _ rfl hv hb
    ·have ne:∀m:Nat,m<256→k≠UInt8.ofNat m→k.toNat≠m:=fun m hm hk e=>hk (by rw[←e,UInt8.ofNat_toNat])
     refine other k.toNat (by rw[num1_cons]) (ne 1 (by decide) h1) (ne 2 (by decide) h2) (ne 3 (by decide) h3) ?_
     unfold readO
     simp[h1,h2,h3]
theorem kmethod_tile (f:Nat) (w:World) (a b c d e:Value):(method (f+1) 270 (.agg #[a,b,c,d,e]) "Kind").run Tryz.prog w=.ok (367,.agg #[a,b,c,d,e]) w:=by kernel_rfl
theorem kmethod_tree (f:Nat) (w:World) (a b c d e:Value):(method (f+1) 271 (.agg #[a,b,c,d,e]) "Kind").run Tryz.prog w=.ok (373,.agg #[a,b,c,d,e]) w:=by kernel_rfl
theorem kmethod_comm (f:Nat) (w:World) (a b c d e:Value):(method (f+1) 273 (.agg #[a,b,c,d,e]) "Kind").run Tryz.prog w=.ok (383,.agg #[a,b,c,d,e]) w:=by kernel_rfl
theorem tkind_ok (w:World) (a b c d e:Value):Calls Tryz.prog 367 #[.agg #[a,b,c,d,e]] w fun x w'=>x=.returned (.int .i64 1)∧Chg [] w w':=by
 have HC:=zH ((Chg.refl [] w).alloc (.cells #[a,b,c,d,e] 270))
 go_enter Tryz.func367,Tryz.ntmps367
 go_wp2_with fail
 go_ret
 exact⟨rfl,by first | exact HC.out | exact Chg.refl _ _⟩
theorem rkind_ok (w:World) (a b c d e:Value):Calls Tryz.prog 373 #[.agg #[a,b,c,d,e]] w fun x w'=>x=.returned (.int .i64 2)∧Chg [] w w':=by
 have HC:=zH ((Chg.refl [] w).alloc (.cells #[a,b,c,d,e] 271))
 go_enter Tryz.func373,Tryz.ntmps373
 go_wp2_with fail
 go_ret
 exact⟨rfl,by first | exact HC.out | exact Chg.refl _ _⟩
theorem ckind_ok (w:World) (a b c d e:Value):Calls Tryz.prog 383 #[.agg #[a,b,c,d,e]] w fun x w'=>x=.returned (.int .i64 3)∧Chg [] w w':=by
 have HC:=zH ((Chg.refl [] w).alloc (.cells #[a,b,c,d,e] 273))
 go_enter Tryz.func383,Tryz.ntmps383
 go_wp2_with fail
 go_ret
 exact⟨rfl,by first | exact HC.out | exact Chg.refl _ _⟩
def kindP:Option ObjD→Nat
 | some o=>o.kind
 | none=>0
theorem kindO_P (b:List UInt8):kindO b=kindP (parseO b):=by unfold kindO kindP;cases parseO b <;> rfl
theorem okind_ok (w:World) (hT:Tabs w) (v:Value) (b:List UInt8) (hv:Sees w 1 v b.length (Bs b)) (hb:b.length≤1000000):
  Calls Tryz.prog 48 #[v] w fun e w'=>e=.returned (.tuple #[.int .i64 (kindO b:Nat),.int .i64 (if kindO b=0 then 4 else 0)])∧Chg [] w w':=by
 have hp:=oparse_ok w hT v b hv hb
 obtain⟨ao,cap,rfl,-⟩:=hv.shape
 obtain⟨P,hP⟩:∃P,parseO b=P:=⟨_,rfl⟩
 have eK:kindO b=kindP P:=by rw[kindO_P,hP]
 rw[eK]
 rw[hP] at hp
 clear hT hv hb hP eK
 go_enter Tryz.func48,Tryz.ntmps48
 go_wp2_with fail
 refine hp.mono ?_
 rintro e w1 ⟨x,rfl,hx,c1⟩
 clear hp
 have HC:=zH c1
 clear c1
 cases P with
 | none=>
  have hx2:x=.nilIface:=hx
  clear hx
  subst hx2
  go_wp2_with fail
  go_ret2
  exact⟨rfl,HC.out⟩
 | some o=>
  cases o with
  | tile s px=>
   obtain⟨pv,rfl,-⟩:=hx
   have mt:=kmethod_tile
   have hk:=tkind_ok w1 (.int .i64 s.w) (.int .i64 s.h) (.int .i64 s.c) (.int .i64 s.d) pv
   unfold rasV
   go_wp2_with fail
   refine hk.mono ?_
   rintro e w2 ⟨rfl,c2⟩
   clear hk
   have HC2:=zH c2
   clear c2
   go_wp2_with fail
   go_ret2
   exact⟨rfl,HC.out.nil HC2.out⟩
  | tree t=>
   obtain⟨pv,rfl,-⟩:=hx
   have mt:=kmethod_tree
   have hk:=rkind_ok w1 (.int .i64 t.shp.w) (.int .i64 t.shp.h) (.int .i64 t.shp.c) (.int .i64 t.shp.d) pv
   unfold treeV
   go_wp2_with fail
   refine hk.mono ?_
   rintro e w2 ⟨rfl,c2⟩
   clear hk
   have HC2:=zH c2
   clear c2
   go_wp2_with fail
   go_ret2
   exact⟨rfl,HC.out.nil HC2.out⟩
  | comm c=>
   obtain⟨pv,rfl,-⟩:=hx
   have mt:=kmethod_comm
   have hk:=ckind_ok w1 (.string (str c.tree)) pv (.int .i64 c.stamp) (.string (str c.author)) (.string (str c.text))
   unfold commV
   go_wp2_with fail
   refine hk.mono ?_
   rintro e w2 ⟨rfl,c2⟩
   clear hk
   have HC2:=zH c2
   clear c2
   go_wp2_with fail
   go_ret2
   exact⟨rfl,HC.out.nil HC2.out⟩
end Go.Proofs.YtlidiclfpklliaaGreatDoor
namespace Go.Aq
open Go.RowKit
theorem results_tc {P:Program} {fn:Func} {p u:Tmp} {tu:TypeId} (h:fn.results=#[.tmp p,.cell u tu]) (tmps:Array Value) (w:World) {g:Nat} {x y:Value} (hu:tmps.getD u undef=.pointer (some ⟨g,0,none⟩))
  (ha:∀w,(isAgg tu).run P w=.ok true w) (hs:∀w,(sizeOf tu).run P w=.ok 2 w) (c0:w.cell? ⟨g,0,none⟩=some x) (c1:w.cell? ⟨g,1,none⟩=some y):(results fn tmps).run P w=.ok (.tuple #[tmps.getD p undef,.agg #[x,y]]) w:=by
 have hu':tmps[u]?.getD undef=.pointer (some ⟨g,0,none⟩):=by simpa using hu
 have hl:(loadCells ⟨g,0,none⟩ 2).run P w=.ok #[x,y] w:=by
  have e0:(⟨g,0,none⟩:Addr).add 0=⟨g,0,none⟩:=by simp[Addr.add]
  have e1:(⟨g,0,none⟩:Addr).add 1=⟨g,1,none⟩:=by simp[Addr.add]
  simp[go_sem,loadCells,e0,e1,c0,c1]
 simp only[results,h]
 simp[Sem.run_bind,Result.andThen,loadVar,ha,hs,hu',asAddr,hl]
end Go.Aq
namespace Go.Proofs.YtlidiclfpklliaaGreatDoor
open Go.RowKit Go.Aq Go.Aq.Fy Go.Maps
def UsedR (w:World) (mu:Nat) (U:List Nat):Prop:=∃f,MapF Tryz.prog 3 w mu f∧∀k:Nat,f (.int .i64 (k:Int))=if k∈U then some (.bool true) else none
theorem UsedR.chg {w w':World} {mu:Nat} {U T:List Nat} (h:UsedR w mu U) (c:Chg T w w') (hm:mu∉T):UsedR w' mu U:=by
 obtain⟨f,h1,h2⟩:=h
 exact⟨f,h1.chg c hm,h2⟩
theorem UsedR.lt {w:World} {mu:Nat} {U:List Nat} (h:UsedR w mu U):mu<w.heap.size:=by obtain⟨f,h1,_⟩:=h;exact h1.lt
theorem zeroBl (w:World):(zeroValue 4).run Tryz.prog w=.ok (.bool false) w:=by kernel_rfl
theorem UsedR.look {w:World} {mu:Nat} {U:List Nat} (h:UsedR w mu U) (k:Nat) (hk:k∉U) (hb:k≤1000000):(Instr.lookup 257 (.map (some mu)) (.int .i64 (k:Int)) false).run Tryz.prog w=.ok (.bool false) w:=by
 obtain⟨f,h1,h2⟩:=h
 have:=(h1.look lawI Tryz.underlying257 (zeroBl w) (goodI k (by omega))).1
 rw[h2 k,if_neg hk] at this
 exact this
theorem UsedR.put {w:World} {mu:Nat} {U:List Nat} (h:UsedR w mu U) (k:Nat) (hb:k≤1000000):∃w',(Instr.mapUpdate 257 (.map (some mu)) (.int .i64 (k:Int)) (.bool true)).run Tryz.prog w=.ok () w'∧UsedR w' mu (U++[k])∧Chg [mu] w w':=by
 obtain⟨f,h1,h2⟩:=h
 obtain⟨w',r,m,c⟩:=h1.put (v:=.bool true) lawI Tryz.underlying257 (goodI k (by omega))
 refine⟨w',r,⟨_,m,fun j=>?_⟩,c⟩
 unfold updF
 by_cases e:j=k
 ·subst e;simp
 ·have e':(Value.int IntKind.i64 (j:Int))≠Value.int IntKind.i64 (k:Int):=fun hh=>by injection hh with _ hh;omega
  rw[if_neg e',h2 j]
  simp[e]
theorem UsedR.new {w w':World} {mu:Nat} (h:MapF Tryz.prog 3 w mu fun _=>none):UsedR w mu []:=⟨_,h,fun k=>by simp⟩
theorem lin8 {x l:Nat} (h:x≤65535) (hl:l=cnt x):l≤256:=by rw[hl];unfold cnt;omega
theorem lin9 {k all:Nat} (h:k<all) (ha:all≤4096):k≤1000000∧k<65536∧¬all≤k:=by omega
def FileEnd (w:World) (p B mu:Nat) (U:List Nat) (s:Nm) (x:FileD) (rest:Sec) (e:Ending) (w':World):Prop:=
 ∃v,e=.returned (.tuple #[.string (str s),.agg #[.int .i64 x.size,v]])∧Sees w' 1 v x.blocks.length (ints x.blocks)∧(∀k∈eyes v,w.heap.size≤k)∧RdR w' p B rest∧UsedR w' mu (U++x.blocks)∧Chg [p,mu] w w'
set_option maxRecDepth 100000 in
theorem file_ok (w:World) (p B mu all:Nat) (U:List Nat) (s:Nm) (x:FileD) (rest:Sec) (hR:RdR w p B (rowB (s,x)++rest)) (hB:B≤w.heap.size) (hpl:p<w.heap.size) (hU:UsedR w mu U) (hpm:p≠mu) (hl:(rowB (s,x)++rest).length≤1000000) (hmB:B≤mu) (hBp:B≤p)
  (hs:nameOk s=true) (hz:x.size≤65535) (hbl:x.blocks.length=cnt x.size) (hk:∀k∈x.blocks,k<all) (ha:all≤4096) (hnd:x.blocks.Nodup) (hUn:∀k∈x.blocks,k∉U):
  Calls Tryz.prog 178 #[.pointer (some ⟨p,0,none⟩),.int .i64 all,.map (some mu)] w (FileEnd w p B mu U s x rest):=by
 obtain⟨n,hn⟩:∃n,x.size=n:=⟨_,rfl⟩
 obtain⟨m,hm⟩:∃m,x.blocks.length=m:=⟨_,rfl⟩
 have hsl:=nameOk_len hs
 obtain⟨sl,hsl2⟩:∃sl,s.length=sl:=⟨_,rfl⟩
 rw[hn] at hz hbl
 rw[hm] at hbl
 have hm4:=lin8 hz hbl
 obtain⟨r3,hr3⟩:∃r3,(x.blocks.flatMap fun k=>beB k 2)++rest=r3:=⟨_,rfl⟩
 obtain⟨r2,hr2⟩:∃r2,beB n 4++r3=r2:=⟨_,rfl⟩
 obtain⟨r1,hr1⟩:∃r1,s++r2=r1:=⟨_,rfl⟩
 have e0:rowB (s,x)++rest=beB sl 1++r1:=by
  have h1:beB s.length 1=[UInt8.ofNat s.length]:=by rw[beB_succ];simp[beB,Go.Aq.leBy]
  rw[←hsl2,h1,←hr1,←hr2,←hr3,←hn]
  simp[rowB,List.append_assoc]
 have hl1:(beB sl 1++r1).length≤1000000:=by rw[←e0];exact hl
 have hl2:r1.length≤1000000:=by rw[List.length_append] at hl1;omega
 have hl3:r2.length≤1000000:=by rw[←hr1,List.length_append] at hl2;omega
 have hl4:r3.length≤1000000:=by rw[←hr2,List.length_append] at hl3;omega
 rw[e0] at hR
 rw[hsl2] at hsl
 have HH:=zH (And.intro hU (And.intro hpm (And.intro hmB (And.intro hBp (And.intro hk (And.intro ha (And.intro hnd (And.intro hUn (And.intro hr3 (And.intro hn (And.intro hm (And.intro hsl2 (And.intro hl4 (And.intro hB hpl))))))))))))))
 have hcnt:=fun w'=>count_ok w' n (by omega)
 rw[←hbl] at hcnt
 have hname:=fun w'=>name_ok w' s (by omega)
 rw[hs] at hname
 have hzf:=zeroFile
 clear hU hmB hBp hk ha hnd hUn hr3 hn hm hl e0 hbl hs hB
 go_enter Tryz.func178,Tryz.ntmps178
 go_upto_region 1 with (fail)
 obtain⟨w1,hw1⟩:∃w1,w.alloc (.cells #[.int .i64 0,.slice none 0 0] 110)=w1:=⟨_,rfl⟩
 obtain⟨A0,hA0⟩:∃A0,w.heap.size=A0:=⟨_,rfl⟩
 have hb0:Blk w1 A0 #[.int .i64 0,.slice none 0 0] 110:=by rw[←hw1,←hA0];exact Blk.new _ _ _
 have k1:Chg [] w w1:=by rw[←hw1];exact (Chg.refl [] w).alloc _
 rw[hw1,hA0]
 have hn1:=number_ok w1 p B sl 1 r1 (by decide) (by decide) (by omega) (hR.chg k1 (by simp)) hl1
 have H1:=zB hb0 k1 hA0
 clear hw1 hb0 k1 hA0 hR hl1
 go_wp2_with fail
 refine hn1.mono ?_
 rintro e w2 ⟨rfl,hR2,c2⟩
 have ht2:=take_ok w2 p B s r2 sl hsl2 (by rw[hr1];exact hR2) (by rw[hr1];exact hl2)
 have H2:=zH c2
 clear hn1 hR2 c2 hr1 hl2
 go_wp2_with fail
 refine ht2.mono ?_
 rintro e w3 ⟨v3,rfl,hS3,hR3,c3⟩
 have hcv:=run_str8 hS3
 obtain⟨a3,q3,rfl,-⟩:=hS3.shape
 have hn4:=number_ok w3 p B n 4 r3 (by decide) (by decide) (show n<256^4 by omega) (by rw[hr2];exact hR3) (by rw[hr2];exact hl3)
 have H3:=zA c3 hS3
 clear ht2 hS3 hR3 c3 hr2 hl3
 go_wp2_with fail
 refine hn4.mono ?_
 rintro e w4 ⟨rfl,hR4,c4⟩
 clear hn4 hcv
 have c24:Chg [p] w w4:=((H1.out.2.1.toS.tr H2.out).tr H3.out.1).tr c4
 have hsz1:=H1.out.2.1.size
 have hsz4:=c24.size
 have hA0l:=H1.out.1.lt
 have hpA0:A0∉[p]:=by have h1:=H1.out.2.2;simp;omega
 have hb0:=((H1.out.1.chg H2.out hpA0).chg H3.out.1 hpA0).chg c4 hpA0
 go_upto_region 3 with (fail)
 obtain⟨w5,hw5⟩:∃w5,w4.alloc (.cells #[.int .i64 n,.slice none 0 0] 110)=w5:=⟨_,rfl⟩
 obtain⟨A1,hA1⟩:∃A1,w4.heap.size=A1:=⟨_,rfl⟩
 have hb1:Blk w5 A1 #[.int .i64 n,.slice none 0 0] 110:=by rw[←hw5,←hA1];exact Blk.new _ _ _
 have k5:Chg [] w4 w5:=by rw[←hw5];exact (Chg.refl [] w4).alloc _
 rw[hw5,hA1]
 obtain⟨⟨y0,-⟩,-⟩:=hb1.c2
 have hA01:A0<A1:=by have:=hb0.lt;omega
 have H5:=zE (hb0.chg0 k5) hb1 (c24.nil k5) (hR4.chg k5 (by simp)) hA01 (show w.heap.size≤A0 by have:=H1.out.2.2;omega)
 have t1:decide ((65535:Int)<(n:Int))=false:=by simp;omega
 have t1':decide (65535<n)=false:=by simp;omega
 have hnm:=hname w5
 clear hw5 hA1 k5 hb0 hb1 hR4 c4 c24 hsz1 hsz4 hA0l hpA0 hA01 hname
 go_wp2_with fail
 refine hnm.mono ?_
 rintro e w6 ⟨rfl,c6⟩
 replace y0:=c6.cell_some y0 (by simp)
 have H6:=zH c6
 clear hnm c6
 go_wp2_with fail
 refine (hcnt w6).mono ?_
 rintro e w7 ⟨rfl,hw7⟩
 obtain rfl:w6=w7:=hw7.symm
 clear hcnt y0 t1 t1'
 go_wp2_with fail
 go_loopg [10,34] m (fun k (v10 v34:Value) wr=>∃(j:Nat) (v:Value),v34=.int .i64 j∧Blk wr A1 #[.int .i64 n,v] 110∧OwnN w wr 3 1 v j (ints (x.blocks.take j))∧Hid (j+k=m∧RdR wr p B ((x.blocks.drop j).flatMap (fun k=>beB k 2)++rest)∧UsedR wr mu (U++x.blocks.take j)∧Blk wr A0 #[.int .i64 0,.slice none 0 0] 110∧Chg [p,mu] w wr))
 case atStart=>
  refine⟨0,.slice none 0 0,rfl,H5.out.2.1.chg0 H6.out,OwnN.nil _ _ _ _,Nat.zero_add _,?_,?_,H5.out.1.chg0 H6.out,(H5.out.2.2.1.nil H6.out).mono (fun t ht=>.inl (by simp at ht;simp[ht]))⟩
  ·rw[List.drop_zero,HH.out.2.2.2.2.2.2.2.2.1];exact H5.out.2.2.2.1.chg H6.out (by simp)
  ·rw[List.take_zero,List.append_nil];exact HH.out.1.chg (H5.out.2.2.1.nil H6.out) (by have:=HH.out.2.1;simp;exact fun e=>this e.symm)
 case round=>
  obtain⟨j,v,rfl,hbA,hO,HJ⟩:=hrel
  obtain⟨av,qv,rfl,-⟩:=hO.shape
  by_cases hj:j<m
  ·have t0:decide ((j:Int)<(m:Int))=true:=by simp;omega
   have t0':decide (j<m)=true:=by simp;omega
   obtain⟨hjk,hR,hU,hb0,cw⟩:=HJ.out
   have hjl:j<x.blocks.length:=by rw[HH.out.2.2.2.2.2.2.2.2.2.2.1];exact hj
   obtain⟨kb,hkb⟩:∃kb,x.blocks[j]'hjl=kb:=⟨_,rfl⟩
   have hdr:x.blocks.drop j=kb::x.blocks.drop (j+1):=by rw[List.drop_eq_getElem_cons hjl,hkb]
   have htk:x.blocks.take (j+1)=x.blocks.take j++[kb]:=by rw[List.take_succ_eq_append_getElem hjl,hkb]
   have hmem:kb∈x.blocks:=by rw[←hkb];exact List.getElem_mem hjl
   obtain⟨n1,n2,n3⟩:=lin9 (HH.out.2.2.2.2.1 kb hmem) HH.out.2.2.2.2.2.1
   have hkU:kb∉U++x.blocks.take j:=fun hh=>by
    rcases List.mem_append.1 hh with h | h
    ·exact HH.out.2.2.2.2.2.2.2.1 kb hmem h
    ·have h1:=HH.out.2.2.2.2.2.2.1
     have h2:x.blocks=x.blocks.take j++(kb::x.blocks.drop (j+1)):=by rw[←hdr,List.take_append_drop]
     rw[h2] at h1
     exact (List.nodup_append.1 h1).2.2 kb h kb (by simp) rfl
   obtain⟨rr,hrr⟩:∃rr,(x.blocks.drop (j+1)).flatMap (fun k=>beB k 2)++rest=rr:=⟨_,rfl⟩
   have hR':RdR wr p B (beB kb 2++rr):=by have h:=hR;rw[hdr,List.flatMap_cons,List.append_assoc,hrr] at h;exact h
   have hrl:(beB kb 2++rr).length≤1000000:=by
    have h1:=HH.out.2.2.2.2.2.2.2.2.2.2.2.2.1
    rw[←HH.out.2.2.2.2.2.2.2.2.1] at h1
    have h3:(x.blocks.flatMap (fun k=>beB k 2)++rest).length=j * 2+(beB kb 2++rr).length:=by
     rw[←hrr]
     simp only[List.length_append,bes_len,beB_length,List.length_drop]
     omega
    omega
   have hnb:=number_ok wr p B kb 2 rr (by decide) (by decide) (show kb<256^2 from n2) hR' hrl
   have e2:wrap64 ((j:Int)+1)=((j+1:Nat):Int):=by unfold wrap64;omega
   have e2w:=wIq e2
   have t3:decide ((all:Int)≤(kb:Int))=false:=by simp;omega
   have t3':decide (all≤kb)=false:=by simp;omega
   have hpw:p<w.heap.size:=HH.out.2.2.2.2.2.2.2.2.2.2.2.2.2.2
   have hmw:mu<w.heap.size:=HH.out.1.lt
   have hA0w:=H5.out.2.2.2.2.2
   have hA01:=H5.out.2.2.2.2.1
   have HQ:=zH (And.intro (lin5 hjk hj) (And.intro hU (And.intro hb0 (And.intro cw (And.intro htk (And.intro hrr (And.intro hkU (And.intro n1 (And.intro hpw (And.intro hmw (And.intro hA0w hA01)))))))))))
   have HO:=zH hO
   clear hjk hR hU hb0 cw hdr htk hmem hkU hrr hR' hrl hkb hjl n1 n2 n3 hpw hmw hA0w hA01 hO
   go_wp2_with fail
   refine hnb.mono ?_
   rintro e w8 ⟨rfl,hR8,c8⟩
   clear hnb
   obtain⟨hj1,hU,hb0,cw,htk,hrr,hkU,n1,hpw,hmw,hA0w,hA01⟩:=HQ.out
   have hU8:=hU.chg c8 (by have:=HH.out.2.1;simp;exact fun e=>this e.symm)
   have hlk:=hU8.look kb hkU n1
   obtain⟨w9,r9,hU9,c9⟩:=hU8.put kb n1
   have hbA8:=hbA.chg c8 (by simp;omega)
   have hbA9:=hbA8.chg c9 (by simp;omega)
   have hO9:=(HO.out.chg c8 (fun t ht ht'=>by have:=HO.out.new t ht;simp at ht';omega)).chg c9 (fun t ht ht'=>by have:=HO.out.new t ht;simp at ht';omega)
   obtain⟨vr,hbr,hsr,hpr,hBr⟩:=hR8
   obtain⟨⟨-,x1⟩,-⟩:=hbr.c2
   obtain⟨⟨-,z1⟩,-,g1⟩:=hbA9.c2
   have H9:=zE (show RdR w9 p B rr from RdR.chg ⟨vr,hbr,hsr,hpr,hBr⟩ c9 (fun t ht=>by have h1:=HH.out.2.1;have h2:=HH.out.2.2.1;simp at ht;subst ht;exact⟨fun e=>h1 e.symm,h2⟩)) hU9 ((hb0.chg c8 (by simp;omega)).chg c9 (by simp;omega)) ((cw.tr (c8.mono (fun t ht=>.inl (by simp at ht;simp[ht])))).tr (c9.mono (fun t ht=>.inl (by simp at ht;simp[ht])))) hO9 hbA9
   have hown:=hO9.own
   have hneA:=Go.Aq.Own.ne hown hbA9 (by decide)
   clear hj1 hU hb0 cw htk hrr hkU n1 hpw hmw hA0w hA01 hU8 c8 hU9 c9 hbA hbA8 hO9 hbr hsr hpr hBr
   go_wp2_with (first
    | (at_builtin;refine wpList_push rfl _ _ 108 rfl sl_int hown rfl rfl rfl (by omega) (by omega) ?_;intro g5 cp5 w10 ho10 c10 hg10 hcp10 hgl10;have hbA10:=hbA9.chg c10 hneA;obtain⟨⟨-,z1⟩,-,g1⟩:=hbA10.c2)
    | fail)
   have HP:=zC ho10 c10 hg10 hbA10
   have HNE:=zH hneA
   clear ho10 c10 hg10 hbA10 hown hbA9 hneA r9 hlk
   go_roundg (gk - 1)
   case measure=>exact HQ.out.1.2
   case rel=>
    obtain⟨hj1,-,-,-,htk,hrr,-,-,hpw,hmw,hA0w,hA01⟩:=HQ.out
    obtain⟨hR9,hU9,hb9,cw9,hO9,hbA9⟩:=H9.out
    obtain⟨ho10,c10,hg10,hbA10⟩:=HP.out
    have hT:∀t∈(Value.slice av j qv).ownBlock.toList,w.heap.size≤t:=fun t ht=>HO.out.new t ht
    have hs9:=cw9.size
    have cS:Chg [A1] w10 (w10.setCell ⟨A1,1,none⟩ (.slice (some ⟨g5,0,none⟩) (j+1) cp5)):=(Chg.refl _ _).setCell (by simp) _
    have hneO:=Go.Aq.Own.ne ho10 hbA10 (by decide)
    have hbS:=hbA10.set 1 (.slice (some ⟨g5,0,none⟩) (j+1) cp5)
    simp only[List.setIfInBounds_toArray,List.set_cons_zero,List.set_cons_succ] at hbS
    have hBw:=HH.out.2.2.2.2.2.2.2.2.2.2.2.2.2.1
    have hneA0:=Go.Aq.Own.ne hO9.own hb9 (by decide)
    refine⟨j+1,_,by simp,hbS,⟨?_,fun t ht=>?_⟩,hj1.1,?_,?_,?_,?_⟩
    ·rw[htk,show ints (x.blocks.take j++[kb])=ints (x.blocks.take j)++[.int .i64 (kb:Int)] by simp[ints]]
     exact ho10.chg cS (fun t ht ht'=>by simp at ht';subst ht';exact hneO ht)
    ·simp[Value.ownBlock] at ht
     subst ht
     rcases hg10 with h | h
     ·exact hT t h
     ·omega
    ·rw[hrr]
     exact (hR9.chg c10 (fun t ht=>⟨fun e=>by have:=hT t ht;omega,by have:=hT t ht;omega⟩)).chg cS (fun t ht=>by simp at ht;subst ht;exact⟨by omega,by omega⟩)
    ·rw[htk,←List.append_assoc]
     exact (hU9.chg c10 (fun hh=>by have:=hT mu hh;omega)).chg cS (by simp;omega)
    ·exact (hb9.chg c10 hneA0).chg cS (by simp;omega)
    ·exact ((cw9.trans c10 (fun t ht=>.inr (hT t ht))).trans cS (fun t ht=>.inr (by simp at ht;omega)))
  ·have t0:decide ((j:Int)<(m:Int))=false:=by simp;omega
   have t0':decide (j<m)=false:=by simp;omega
   obtain⟨hjk,hR,hU,hb0,cw⟩:=HJ.out
   have hjm:j=m:=by omega
   have hml:=HH.out.2.2.2.2.2.2.2.2.2.2.1
   have hdz:x.blocks.drop j=[]:=List.drop_eq_nil_of_le (by omega)
   have htz:x.blocks.take j=x.blocks:=List.take_of_length_le (by omega)
   rw[hdz] at hR
   rw[htz] at hU hO
   have hA01:=H5.out.2.2.2.2.1
   obtain⟨⟨x0,x1⟩,-⟩:=hbA.c2
   obtain⟨⟨z0,z1⟩,g0,g1⟩:=hb0.c2
   have HE:=zF hR hU hO hb0 hbA cw hjm
   clear hjk hR hU hO hb0 hbA cw hjm hml hdz htz hj
   go_upto_region 15 with (fail)
   go_region
   go_wp2_with fail
   obtain⟨hR,hU,hO,hb0,hbA,cw,hjm⟩:=HE.out
   have hbS:=(hb0.set 0 (.int .i64 (n:Int))).set 1 (.slice av j qv)
   simp only[List.setIfInBounds_toArray,List.set_cons_zero,List.set_cons_succ] at hbS
   have ia:∀w,(isAgg 110).run Tryz.prog w=.ok true w:=fun w=>by kernel_rfl
   have isz:∀w,(sizeOf 110).run Tryz.prog w=.ok 2 w:=fun w=>by kernel_rfl
   refine bodyPost_ret (results_tc rfl _ _ rfl ia isz (hbS.drew.cell 0) (hbS.drew.cell 1)) rfl ?_
   have hA0w:=H5.out.2.2.2.2.2
   have cS:Chg [A0] wr (((wr.setCell ⟨A0,0,none⟩ (.int .i64 (n:Int))).setCell ⟨A0,1,none⟩ (.slice av j qv)).drew):=((((Chg.refl [A0] wr).setCell (by simp) _).setCell (by simp) _)).drew
   have hn0:=HH.out.2.2.2.2.2.2.2.2.2.1
   have hml:=HH.out.2.2.2.2.2.2.2.2.2.2.1
   have hBw:=HH.out.2.2.2.2.2.2.2.2.2.2.2.2.2.1
   have hpw:=HH.out.2.2.2.2.2.2.2.2.2.2.2.2.2.2
   have hmw:=HH.out.1.lt
   have hneA0:=Go.Aq.Own.ne hO.own hb0 (by decide)
   refine⟨.slice av j qv,by rw[hn0];rfl,?_,fun t ht=>hO.new t (eyes_own _ t ht),hR.chg cS (fun t ht=>by simp at ht;subst ht;exact⟨by omega,by omega⟩),hU.chg cS (by simp;omega),cw.trans cS (fun t ht=>.inr (by simp at ht;omega))⟩
   rw[hml,←hjm]
   exact hO.own.sees.chg cS (fun t ht ht'=>by simp at ht';subst ht';exact hneA0 (eyes_own _ t ht))
theorem nul_get {n j:Nat} (h:j<n):(Bs (nul n))[j]?=some (.int .u8 0):=by simp[Bs,nul,Bc,h]
set_option maxRecDepth 100000 in
theorem trimR_ok (w:World) (ao:Option Addr) (n cap:Nat) (h:Sees w 1 (.slice ao n cap) n (Bs (nul n))) (hn:n≤1000000):
  Calls Tryz.prog 236 #[.slice ao n cap,.int .u8 0] w fun e w'=>e=.returned (.slice ao 0 cap)∧w'=w:=by
 have hS:=zH h
 have hcap:n≤cap:=by obtain⟨_,_,e,h2,-⟩:=h.shape;cases e;exact h2
 have HC:=zA hcap hn
 clear h hcap hn
 go_enter Tryz.func236,Tryz.ntmps236
 go_wp2_with fail
 go_loopg [0] n (fun k (v0:Value) wr=>v0=.slice ao k cap∧Hid (k≤n)∧wr=w)
 case atStart=>exact⟨rfl,Nat.le_refl _,rfl⟩
 case round=>
  obtain⟨rfl,HK,rfl⟩:=hrel
  by_cases hk:0<gk
  ·have t0:decide ((0:Int)<(gk:Int))=true:=by simp;omega
   have t0':decide (0<gk)=true:=by simp;omega
   obtain⟨gk1,hgk⟩:∃k1,gk=k1+1:=⟨gk - 1,by omega⟩
   subst hgk
   obtain⟨g,off,cp,e,-,hc⟩:=hS.out.at1 (by have:=HK.out;omega)
   cases e
   have z0:=hc gk1 (by have:=HK.out;omega)
   rw[nul_get (by have:=HK.out;omega)] at z0
   have e1:wrap64 (((gk1+1:Nat):Int) - 1)=(gk1:Int):=by have h1:=HC.out.2;have h2:=HK.out;unfold wrap64;omega
   have e1':wrap64 ((gk1:Int)+1 - 1)=(gk1:Int):=by have h1:=HC.out.2;have h2:=HK.out;unfold wrap64;omega
   have e1c:wrap64 (gk1:Int)=(gk1:Int):=by have h1:=HC.out.2;have h2:=HK.out;unfold wrap64;omega
   have e1cw:=wIq e1c
   have e1w:=wIq e1
   have e1w':=wIq e1'
   have s1:(gk1:Int)<((gk1+1:Nat):Int):=by omega
   have s1':(gk1:Int)<(gk1:Int)+1:=by omega
   have s2:(gk1:Int)≤(cap:Int):=by have h1:=HC.out.1;have h2:=HK.out;omega
   have s3:gk1<gk1+1:=by omega
   have s4:¬cap=0:=by have h1:=HC.out.1;have h2:=HK.out;omega
   have HK1:=zH (show gk1≤n by have:=HK.out;omega)
   clear hc hk
   go_wp2_with fail
   go_roundg gk1
   case measure=>exact Nat.lt_succ_self _
   case rel=>exact⟨by first | rfl | simp[Addr.add],HK1.out,rfl⟩
  ·have h0:gk=0:=by omega
   subst h0
   clear hk
   go_wp2_with fail
   go_ret
   exact⟨rfl,rfl⟩
set_option maxRecDepth 100000 in
theorem trimL_ok (w:World) (ao:Option Addr) (cap:Nat):
  Calls Tryz.prog 235 #[.slice ao 0 cap,.int .u8 0] w fun e w'=>e=.returned (.slice none 0 0)∧w'=w:=by
 go_enter Tryz.func235,Tryz.ntmps235
 go_wp2_with fail
 go_loopg [0] 0 (fun k (v0:Value) wr=>v0=.slice ao 0 cap∧wr=w)
 case atStart=>exact⟨rfl,rfl⟩
 case round=>
  obtain⟨rfl,rfl⟩:=hrel
  go_wp2_with fail
  go_ret
  exact⟨rfl,rfl⟩
set_option maxRecDepth 100000 in
theorem trim_ok (w:World) (v:Value) (n:Nat) (h:Sees w 1 v n (Bs (nul n))) (hn:n≤1000000):
  Calls Tryz.prog 179 #[v,.string ⟨#[0]⟩] w fun e w'=>e=.returned (.slice none 0 0)∧Chg [] w w':=by
 obtain⟨ao,cap,rfl,-⟩:=h.shape
 by_cases h0:n=0
 ·subst h0
  clear h hn
  go_enter Tryz.func179,Tryz.ntmps179
  go_wp2_with fail
  go_ret
  exact⟨rfl,Chg.refl _ _⟩
 ·have t0:((n:Int)==0)=false:=by simp;omega
  have hr:=fun w' (c:Chg [] w w')=>trimR_ok w' ao n cap (h.chg0 c) hn
  have hl:=fun w'=>trimL_ok w' ao cap
  have hix:∀w,(Instr.index 9 (.string ⟨#[0]⟩) (.int .i64 0)).run Tryz.prog w=.ok (.int .u8 0) w:=fun w=>by kernel_rfl
  clear h hn
  go_enter Tryz.func179,Tryz.ntmps179
  go_upto_region 6 with (fail)
  obtain⟨W0,hW0⟩:∃W0,w.drew=W0:=⟨_,rfl⟩
  have cd:Chg [] w W0:=by rw[←hW0];exact (Chg.refl _ _).drew
  refine wp_region_U [] (fun _=>false) (by kernel_rfl) ?_
  rw[hW0]
  clear hW0
  have C0:Chg [] W0 W0:=Chg.refl _ _
  refine tU 0 (.slice ao n cap) C0 (fun w4 c4=>?_) ?_
  ·go_simp
  try simp only[Act.put,yA,yB,yC,yD,yE,yF]
  refine tU 1 (.string ⟨#[0]⟩) C0 (fun w4 c4=>?_) ?_
  ·go_simp
  try simp only[Act.put,yA,yB,yC,yD,yE,yF]
  refine tU 2 (.int .u8 0) C0 (fun w4 c4=>?_) ?_
  ·go_simp
  try simp only[Act.put,yA,yB,yC,yD,yE,yF]
  refine tU 4 (.string ⟨#[0]⟩) C0 (fun w4 c4=>?_) ?_
  ·go_simp
  try simp only[Act.put,yA,yB,yC,yD,yE,yF]
  refine tU 5 (.int .u8 0) C0 (fun w4 c4=>?_) ?_
  ·go_simp
  try simp only[Act.put,yA,yB,yC,yD,yE,yF]
  refine oU 3 ?_
  go_simp
  refine (hr W0 cd).mono ?_
  rintro e w1 ⟨rfl,hw1⟩
  obtain rfl:W0=w1:=hw1.symm
  refine⟨C0,?_⟩
  try simp only[Act.put,yA,yB,yC,yD,yE,yF]
  refine oU 6 ?_
  go_simp
  refine (hl W0).mono ?_
  rintro e w1 ⟨rfl,hw1⟩
  obtain rfl:W0=w1:=hw1.symm
  refine⟨C0,?_⟩
  try simp only[Act.put,yA,yB,yC,yD,yE,yF]
  refine tU 7 (.slice none 0 0) C0 (fun w4 c4=>?_) ?_
  ·go_simp
  try simp only[Act.put,yA,yB,yC,yD,yE,yF]
  refine wpAnyU_done (by kernel_rfl) ?_ _
  clear hr hl C0
  go_wp2_with fail
  go_ret
  exact⟨rfl,cd⟩
end Go.Proofs.YtlidiclfpklliaaGreatDoor
namespace Go.Aq.Fy
open Go.Aq
theorem insK_last {α:Type} (s:Nm) (x:α):∀{l:List (Nm×α)},(∀p∈l,p.1<s)→insK s x l=l++[(s,x)]
 | [],_=>rfl
 | (k,y)::l,h=>by
  have hk:=h (k,y) (.head _)
  simp only at hk
  unfold insK
  rw[if_neg (fun e=>by rw[e] at hk;exact List.lt_irrefl _ hk),if_neg (fun hh=>List.lt_irrefl _ (List.lt_trans hk hh)),insK_last s x fun p hp=>h p (.tail _ hp)]
  rfl
def lastN (L:Files) (i:Nat):Nm:=if i=0 then [] else ((L[i - 1]?).map (·.1)).getD []
theorem lastN_lt {all:Nat} {L:Files} (h:FilesOk all L) {i:Nat} (hi:i<L.length):lastN L i<(L[i]'hi).1∧∀p∈L.take i,p.1<(L[i]'hi).1:=by
 have hasc:=List.pairwise_iff_getElem.1 h.asc
 refine⟨?_,fun p hp=>?_⟩
 ·unfold lastN
  split
  ·have h1:=h.name _ (List.getElem_mem hi)
   have h2:(L[i]'hi).1≠[]:=by
    unfold nameOk at h1
    simp only[Bool.and_eq_true,decide_eq_true_eq] at h1
    exact h1.1.2
   cases hh:(L[i]'hi).1 with
   | nil=>exact absurd hh h2
   | cons a b=>exact List.nil_lt_cons _ _
  ·rename_i hi0
   rw[List.getElem?_eq_getElem (by omega)]
   exact hasc (i - 1) i (by omega) hi (by omega)
 ·obtain⟨j,hj,rfl⟩:=List.getElem_of_mem hp
  simp only[List.length_take] at hj
  rw[List.getElem_take]
  exact hasc j i (by omega) hi (by omega)
theorem lastN_succ {L:Files} {i:Nat} (hi:i<L.length):lastN L (i+1)=(L[i]'hi).1:=by
 unfold lastN
 rw[if_neg (by omega),show i+1 - 1=i from rfl,List.getElem?_eq_getElem hi]
 rfl
theorem blks_take {L:Files} {i:Nat} (hi:i<L.length):blks (L.take (i+1))=blks (L.take i)++(L[i]'hi).2.blocks:=by
 unfold blks
 rw[List.take_succ_eq_append_getElem hi,List.flatMap_append]
 simp
theorem blks_split {all:Nat} {L:Files} (h:FilesOk all L) {i:Nat} (hi:i<L.length):(L[i]'hi).2.blocks.Nodup∧∀k∈(L[i]'hi).2.blocks,k∉blks (L.take i):=by
 have h1:(blks (L.take (i+1))).Nodup:=by
  have h2:=h.nodup
  have e:blks L=blks (L.take (i+1))++blks (L.drop (i+1)):=by
   unfold blks
   rw[←List.flatMap_append,List.take_append_drop]
  rw[e] at h2
  exact (List.nodup_append.1 h2).1
 rw[blks_take hi] at h1
 obtain⟨_,h3,h4⟩:=List.nodup_append.1 h1
 exact⟨h3,fun k hk hh=>h4 k hh k hk rfl⟩
end Go.Aq.Fy
namespace Go.Proofs.YtlidiclfpklliaaGreatDoor
open Go.RowKit Go.Aq Go.Aq.Fy Go.Maps
theorem leq_str (a b:List UInt8) (t:TypeId) (w:World):(binOp BinOp.leq t (.string (str a)) (.string (str b))).run Tryz.prog w=.ok (.bool (decide (a≤b))) w:=by
 have h:Op.bytesLess (str a).toList (str b).toList=decide (a<b):=by rw[Proofs.bytesLess_eq,str_toList,str_toList]
 have h2:=str_eq a b
 have h3:(decide (a<b) || decide (a=b))=decide (a≤b):=by
  rw[Bool.eq_iff_iff]
  simp only[Bool.or_eq_true,decide_eq_true_eq]
  exact List.le_iff_lt_or_eq.symm
 rw[←h3,←h,←h2]
 simp[binOp,Op.stringOp]
def ParseEnd (w:World) (S:List Nat) (L:Files) (e:Ending) (w':World):Prop:=
 ∃m,e=.returned (.tuple #[.map (some m),.bool true])∧FilesR w' (m::S) m L∧w.heap.size≤m∧Chg [] w w'
set_option maxRecDepth 100000 in
theorem parse_ok (w:World) (S:List Nat) (hS:In w S) (v:Value) (n z all:Nat) (L:Files) (hL:FilesOk all L) (ha:all≤4096) (hv:Sees w 1 v n (Bs (tableB L++nul z))) (hl:n≤1000000):
  Calls Tryz.prog 101 #[v,.int .i64 all] w (ParseEnd w S L):=by
 obtain⟨ao,cap,rfl,-⟩:=hv.shape
 have hn0:(tableB L++nul z).length=n:=by have:=hv.len;rw[Bs_length] at this;omega
 have hey:∀k∈eyes (.slice ao n cap),k<w.heap.size:=hv.lt (by decide)
 obtain⟨N,hN⟩:∃N,L.length=N:=⟨_,rfl⟩
 have hfew:=hL.few
 rw[hN] at hfew
 have e0:tableB L++nul z=beB N 2++(L.flatMap rowB++nul z):=by unfold tableB;rw[hN,List.append_assoc]
 have HH:=zH (And.intro hS (And.intro hL (And.intro ha (And.intro hv (And.intro hl (And.intro hn0 (And.intro hey (And.intro hN (And.intro hfew e0)))))))))
 clear hS hL ha hv hl hn0 hey hN e0
 go_enter Tryz.func101,Tryz.ntmps101
 go_upto_region 2 with (fail)
 obtain⟨w1,hw1⟩:∃w1,w.alloc (.cells #[.slice ao n cap,.bool false] 256)=w1:=⟨_,rfl⟩
 obtain⟨p,hp⟩:∃p,w.heap.size=p:=⟨_,rfl⟩
 have hbp:Blk w1 p #[.slice ao n cap,.bool false] 256:=by rw[←hw1,←hp];exact Blk.new _ _ _
 have k1:Chg [] w w1:=by rw[←hw1];exact (Chg.refl [] w).alloc _
 rw[hw1,hp]
 have hR1:RdR w1 p p (beB N 2++(L.flatMap rowB++nul z)):=by
  refine⟨_,hbp,?_,fun hh=>?_,fun k hk=>?_⟩
  ·rw[←HH.out.2.2.2.2.2.2.2.2.2,HH.out.2.2.2.2.2.1];exact HH.out.2.2.2.1.chg0 k1
  ·have:=HH.out.2.2.2.2.2.2.1 p hh;omega
  ·have:=HH.out.2.2.2.2.2.2.1 k hk;omega
 have hnb:=number_ok w1 p p N 2 _ (by decide) (by decide) (show N<256^2 by omega) hR1 (by rw[←HH.out.2.2.2.2.2.2.2.2.2,HH.out.2.2.2.2.2.1];exact HH.out.2.2.2.2.1)
 have hpl:=hbp.lt
 have H1:=zB k1 hp hpl
 clear hw1 hbp k1 hp hR1 hpl
 go_wp2_with fail
 refine hnb.mono ?_
 rintro e w2 ⟨rfl,hR2,c2⟩
 clear hnb
 obtain⟨w3,hw3⟩:∃w3,w2.alloc (.map #[] 0)=w3:=⟨_,rfl⟩
 obtain⟨ml,hml⟩:∃ml,w2.heap.size=ml:=⟨_,rfl⟩
 have rm:(Instr.makeMap 106 none).run Tryz.prog w2=.ok (.map (some ml)) w3:=by rw[←hw3,←hml];kernel_rfl
 have k3:Chg [] w2 w3:=by rw[←hw3];exact (Chg.refl [] w2).alloc _
 have hM3:MapS Tryz.prog 9 w3 ml []:=by rw[←hw3,←hml];exact MapS.made _ _ _
 obtain⟨w4,hw4⟩:∃w4,w3.alloc (.map #[] 0)=w4:=⟨_,rfl⟩
 obtain⟨mu,hmu⟩:∃mu,w3.heap.size=mu:=⟨_,rfl⟩
 have rm2:(Instr.makeMap 257 none).run Tryz.prog w3=.ok (.map (some mu)) w4:=by rw[←hw4,←hmu];kernel_rfl
 have k4:Chg [] w3 w4:=by rw[←hw4];exact (Chg.refl [] w3).alloc _
 have hU4:UsedR w4 mu []:=by
  have:=MapF.new Tryz.prog 3 w3
  rw[hw4,hmu] at this
  exact⟨_,this,fun k=>by simp⟩
 have hlm:ml<mu:=by have h1:=hM3.lt;omega
 have hpm:p<ml:=by have h1:=H1.out.2.2;have h2:=c2.size;omega
 have cw4:Chg [] w w4:=(H1.out.1.trans c2 (fun t ht=>.inr (by have:=H1.out.2.1;simp at ht;omega))).nil (k3.nil k4)
 have H4:=zF (hR2.chg (k3.nil k4) (by simp)) (hM3.chg0 k4) hU4 hlm hpm cw4 H1.out.2.1
 have t1:decide ((400:Int)<(N:Int))=false:=by simp;omega
 have t1':decide (400<N)=false:=by simp;omega
 clear hw3 hml k3 hM3 hw4 hmu k4 hU4 hlm hpm cw4 hR2 c2
 go_wp2_with fail
 go_loopg [10,11,12,23] N (fun k (v10 v11 v12 v23:Value) wr=>∃(i:Nat),v23=.int .i64 i∧v10=.string (str (lastN L i))∧Hid (i+k=N∧FilesR wr (ml::p::mu::S) ml (L.take i)∧RdR wr p p ((L.drop i).flatMap rowB++nul z)∧UsedR wr mu (blks (L.take i))∧Chg [] w wr))
 case atStart=>
  obtain⟨h1,h2,h3,h4,h5,h6,h7⟩:=H4.out
  exact⟨0,rfl,rfl,Nat.zero_add _,⟨[],h2,Two.nil⟩,h1,h3,h6⟩
 case round=>
  obtain⟨i,rfl,rfl,HJ⟩:=hrel
  by_cases hi:i<N
  ·have t0:decide ((i:Int)<(N:Int))=true:=by simp;omega
   have t0':decide (i<N)=true:=by simp;omega
   obtain⟨hik,hF,hR,hU,cw⟩:=HJ.out
   have hil:i<L.length:=by rw[HH.out.2.2.2.2.2.2.2.1];exact hi
   obtain⟨x,hx⟩:∃x,L[i]'hil=x:=⟨_,rfl⟩
   obtain⟨s,x⟩:=x
   have hdr:L.drop i=(s,x)::L.drop (i+1):=by rw[List.drop_eq_getElem_cons hil,hx]
   have htk:L.take (i+1)=L.take i++[(s,x)]:=by rw[List.take_succ_eq_append_getElem hil,hx]
   have hmem:(s,x)∈L:=by rw[←hx];exact List.getElem_mem hil
   have hL:=HH.out.2.1
   have hbt:=blks_take hil
   have hsp:=blks_split hL hil
   have hlt:=lastN_lt hL hil
   rw[hx] at hbt hsp hlt
   simp only at hbt hsp hlt
   obtain⟨rr,hrr⟩:∃rr,(L.drop (i+1)).flatMap rowB++nul z=rr:=⟨_,rfl⟩
   have hR':RdR wr p p (rowB (s,x)++rr):=by have h:=hR;rw[hdr,List.flatMap_cons,List.append_assoc,hrr] at h;exact h
   have hrl:(rowB (s,x)++rr).length≤1000000:=by
    have h1:=HH.out.2.2.2.2.1
    have h2:=HH.out.2.2.2.2.2.1
    have h3:=HH.out.2.2.2.2.2.2.2.2.2
    have h4:L.flatMap rowB=(L.take i).flatMap rowB++(rowB (s,x)++(L.drop (i+1)).flatMap rowB):=by
     rw[←List.flatMap_cons,←hdr,←List.flatMap_append,List.take_append_drop]
    rw[h3,h4] at h2
    rw[←hrr]
    simp only[List.length_append] at h2 ⊢
    omega
   have hxl:=hL.size _ hmem
   have hpl:p<wr.heap.size:=by have h1:=H4.out;have h2:=h1.2.1.lt;have h3:=hF.lt;omega
   have hsl:=nameOk_len (hL.name _ hmem)
   have hfo:=file_ok wr p p mu all (blks (L.take i)) s x rr hR' (by omega) hpl hU (by have:=H4.out;omega) hrl (by have:=H4.out;omega) (Nat.le_refl _) (hL.name _ hmem) hxl.1 hxl.2 (fun k hk=>hL.bound k (by unfold blks;exact List.mem_flatMap.2 ⟨_,hmem,hk⟩)) HH.out.2.2.1 hsp.1 hsp.2
   have hle:=fun w=>leq_str s (lastN L i) 9 w
   rw[show decide (s≤lastN L i)=false by simp;exact hlt.1] at hle
   have e2:wrap64 ((i:Int)+1)=((i+1:Nat):Int):=by unfold wrap64;omega
   have e2w:=wIq e2
   have hzf:=zeroFile
   have HQ:=zH (And.intro (lin5 hik hi) (And.intro hF (And.intro hU (And.intro cw (And.intro htk (And.intro hrr (And.intro hbt (And.intro hlt.2 (And.intro hsl hpl)))))))))
   have hla:lastN L (i+1)=s:=by rw[lastN_succ hil,hx]
   clear hik hF hR hU cw hil hx hdr htk hmem hL hbt hsp hlt hrr hR' hrl hxl hpl hsl
   go_wp2_with fail
   refine hfo.mono ?_
   rintro e w5 ⟨v,rfl,hS5,hn5,hR5,hU5,c5⟩
   clear hfo
   obtain⟨av,qv,rfl,-⟩:=hS5.shape
   go_upto_region 9 with (fail)
   obtain⟨w6,hw6⟩:∃w6,w5.alloc (.cells #[.int .i64 x.size,.slice av x.blocks.length qv] 110)=w6:=⟨_,rfl⟩
   obtain⟨A0,hA0⟩:∃A0,w5.heap.size=A0:=⟨_,rfl⟩
   have hb6:Blk w6 A0 #[.int .i64 x.size,.slice av x.blocks.length qv] 110:=by rw[←hw6,←hA0];exact Blk.new _ _ _
   have k6:Chg [] w5 w6:=by rw[←hw6];exact (Chg.refl [] w5).alloc _
   rw[hw6,hA0]
   obtain⟨⟨y0,y1⟩,f0,f1⟩:=hb6.c2
   obtain⟨hi1,hF,hU,cw,htk,hrr,hbt,hlt,hsl,hpl⟩:=HQ.out
   have h4:=H4.out
   have hpm:∀t∈[p,mu],t∈ml::p::mu::S:=fun t ht=>by simp at ht ⊢;rcases ht with h | h <;> simp[h]
   have hFl:=hF.lt
   have hF6:=(hF.chg c5 (fun t ht=>.inl (hpm t ht)) (by simp;omega)).chg0 k6
   have hR6:=hR5.chg k6 (by simp)
   have hU6:=hU5.chg k6 (by simp)
   have hV:FileV w6 (ml::p::mu::S) x (.agg #[.int .i64 x.size,.slice av x.blocks.length qv]):=by
    refine⟨_,rfl,hS5.chg0 k6,fun t ht hh=>?_⟩
    have h1:=hn5 t ht
    have h2:=hU.lt
    rcases List.mem_cons.1 hh with e | hh
    ·omega
    ·rcases List.mem_cons.1 hh with e | hh
     ·omega
     ·rcases List.mem_cons.1 hh with e | hh
      ·omega
      ·have h3:=HH.out.1 t hh
       have h5:=cw.size
       omega
   obtain⟨w7,r7,hF7,c7⟩:=hF6.put s (Nat.le_trans hsl (by decide)) (by simp) (by rw[List.length_take];omega) hV
   rw[insK_last s x hlt,←htk] at hF7
   obtain⟨vr,hbr,hsr,hpr,hBr⟩:=hR6
   obtain⟨⟨-,z1⟩,-⟩:=hbr.c2
   have hR7:RdR w7 p p rr:=RdR.chg ⟨vr,hbr,hsr,hpr,hBr⟩ c7 (fun t ht=>by simp at ht;omega)
   have hU7:=hU6.chg c7 (by simp;omega)
   rw[←hbt] at hU7
   have cw7:Chg [] w w7:=((cw.trans c5 (fun t ht=>.inr (by have:=hpm t ht;have h1:=h4.2.2.2.2.2.2;simp at ht;omega))).nil k6).trans c7 (fun t ht=>.inr (by simp at ht;omega))
   have H7:=zD hi1 hF7 (by rw[hrr];exact hR7:RdR w7 p p ((L.drop (i+1)).flatMap rowB++nul z)) hU7 cw7
   clear hw6 hA0 hb6 k6 hi1 hF hU cw htk hrr hbt hlt hsl hpl h4 hpm hFl hF6 hU6 hV hF7 c7 hbr hsr hpr hBr hR7 hU7 cw7 hS5 hn5 hR5 hU5 c5
   go_wp2_with fail
   go_roundg (gk - 1)
   case measure=>exact H7.out.1.2
   case rel=>
    obtain⟨h1,h2,h3,h4,h5⟩:=H7.out
    exact⟨i+1,by simp,by rw[hla],h1.1,h2,h3,h4,h5⟩
  ·have t0:decide ((i:Int)<(N:Int))=false:=by simp;omega
   have t0':decide (i<N)=false:=by simp;omega
   obtain⟨hik,hF,hR,hU,cw⟩:=HJ.out
   have hLl:=HH.out.2.2.2.2.2.2.2.1
   rw[List.drop_eq_nil_of_le (by omega),List.flatMap_nil,List.nil_append] at hR
   rw[List.take_of_length_le (by omega)] at hF
   obtain⟨vr,hbr,hsr,hpr,hBr⟩:=hR
   rw[show (nul z).length=z by simp[nul]] at hsr
   have hz:z≤1000000:=by have h1:=HH.out.2.2.2.2.1;have h2:=HH.out.2.2.2.2.2.1;have h3:(nul z).length=z:=(by simp[nul]);rw[List.length_append] at h2;omega
   have htr:=fun w' (c:Chg [] wr w')=>trim_ok w' vr z (hsr.chg0 c) hz
   obtain⟨ar,qr,rfl,-⟩:=hsr.shape
   obtain⟨⟨z0,z1⟩,-⟩:=hbr.c2
   have HE:=zB hF cw H4.out
   clear hik hF hU cw hLl hbr hsr hpr hBr hz hi
   go_wp2_with fail
   refine (htr wr (Chg.refl _ _)).mono ?_
   rintro e w8 ⟨rfl,c8⟩
   clear htr
   go_wp2_with fail
   refine bodyPost_ret (results_tmp2 rfl _ _ _) rfl ?_
   obtain⟨hF,cw,h1,h2,h3,h4,h5,h6,h7⟩:=HE.out
   refine⟨ml,rfl,(hF.chg0 c8).wide (fun t ht=>.inl (by simp at ht ⊢;rcases ht with h | h <;> simp[h])),by omega,cw.nil c8⟩
end Go.Proofs.YtlidiclfpklliaaGreatDoor
