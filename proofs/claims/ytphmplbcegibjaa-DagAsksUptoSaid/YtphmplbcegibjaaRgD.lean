/- The document's Ancestors and Is. No statement of the seat is proved here. -/
import Derived.Test.YtphmplbcegibjaaRgC
import Derived.Test.YtphmplbcegibjaaTakeE
import Derived.Deep.DeepCutAuto
set_option linter.unusedVariables false
set_option linter.unusedSimpArgs false
namespace Go.Aq.Dg
theorem Inv.perm {g : List NodeD} {key : List UInt8} {met work work' : List (List UInt8)} (h : Inv g key met work) (p : work.Perm work') : Inv g key met work' :=
  ⟨h.nd, h.r1, fun k hk => h.r2 k (p.mem_iff.2 hk), fun x hx hm q hq hh => (h.clo x hx hm q hq hh).imp id p.mem_iff.1, fun hh => (h.start hh).imp id p.mem_iff.1, by rw [← p.length_eq]; exact h.paid⟩
theorem Inv.skip1 {g : List NodeD} {key k : List UInt8} {met work : List (List UInt8)} (h : Inv g key met (k :: work)) (hk : k ∈ met) : Inv g key met work :=
  (h.perm (work' := work ++ [k]) (by simpa using (List.perm_append_comm (l₁ := [k]) (l₂ := work)))).skip (.inl hk)
theorem Inv.take1 {g : List NodeD} (nd : (g.map (·.key)).Nodup) {key : List UInt8} {met work : List (List UInt8)} {x : NodeD} (h : Inv g key met (x.key :: work)) (hx : x ∈ g) (hn : x.key ∉ met) : Inv g key (met ++ [x.key]) (work ++ x.parents) :=
  Inv.take nd (h.perm (work' := work ++ [x.key]) (by simpa using (List.perm_append_comm (l₁ := [x.key]) (l₂ := work)))) hx hn
end Go.Aq.Dg
namespace Go.Proofs.Ytphmplbcegibjaa
open Go.RowKit Go.Aq Go.Aq.Dg Go.Maps Go.Aq.So

/-- What is to be done (a list that slides) and what was met (a slice of its own), both made since w0. -/
structure TwoR (w0 w : World) (g : Nat) (v5 : Value) (work : List (List UInt8)) (v6 : Value) (met : List (List UInt8)) : Prop where
  sl : Slid w g v5 work
  le : w0.heap.size ≤ g
  fr : Fresh w0 w 9 1 v6 met.length (Sk met)
  dis : g ∉ v6.ownBlock.toList
theorem TwoR.to {w0 w w' : World} {g : Nat} {v5 v6 : Value} {work met : List (List UInt8)} (h : TwoR w0 w g v5 work v6 met) (c : Chg [] w w') : TwoR w0 w' g v5 work v6 met :=
  ⟨h.sl.chg c (by simp), h.le, h.fr.to c, h.dis⟩
theorem TwoR.app {w0 w w' : World} {g : Nat} {v5 v6 v' : Value} {work met : List (List UInt8)} {k : List UInt8} (h : TwoR w0 w g v5 work v6 met) (o : Own w' 9 1 v' (met.length + 1) (Sk met ++ [.string (str k)])) (c : Chg v6.ownBlock.toList w w')
    (n : ∀ k ∈ v'.ownBlock.toList, k ∈ v6.ownBlock.toList ∨ w.heap.size ≤ k) : TwoR w0 w' g v5 work v' (met ++ [k]) := by
  refine ⟨h.sl.chg c h.dis, h.le, ?_, fun hg => ?_⟩
  · have := h.fr.app o c n
    rw [List.length_append, Sk_app]
    exact this
  · rcases n g hg with h1 | h1
    · exact h.dis h1
    · have := h.sl.lt; omega
theorem TwoR.slid {w0 w w' : World} {g g' : Nat} {v5 v6 v' : Value} {work work' met : List (List UInt8)} (h : TwoR w0 w g v5 work v6 met) (o : Slid w' g' v' work') (c : Chg [g] w w') (n : g' = g ∨ w.heap.size ≤ g') : TwoR w0 w' g' v' work' v6 met := by
  refine ⟨o, ?_, ⟨h.fr.own.chg c fun k hk hs => ?_, h.fr.chg.trans c fun i hi => ?_, h.fr.new⟩, fun hg => ?_⟩
  · rcases n with rfl | n
    · exact h.le
    · have := h.fr.chg.size; omega
  · rw [List.mem_singleton.1 hs] at hk; exact h.dis hk
  · rw [List.mem_singleton.1 hi]; exact .inr h.le
  · rcases n with rfl | n
    · exact h.dis hg
    · have := h.fr.own.lt g' hg; omega

set_option maxHeartbeats 2000000 in
set_option maxRecDepth 100000 in
theorem ranc_any {w : World} {p : Nat} {L : List (NodeD × Value)} (hR : RefG w p L) (G : Dg.Good (L.map (·.1))) (S : SmallG (L.map (·.1))) (hl : L.length ≤ 2097152) (key : List UInt8) :
    Calls Try.prog 21 #[.pointer (some ⟨p, 0, none⟩), .string (str key)] w fun e w' => ∃ (v : Value) (ss : List (List UInt8)), e = .returned v ∧ Anc (L.map (·.1)) key ss ∧ ss.length ≤ 2097152 ∧ Fresh w w' 9 1 v ss.length (Sk ss) := by
  have kh := rhas_any hR hl key
  have HH := Lib.hid (And.intro hR (And.intro G (And.intro S hl)))
  cases hk : hasK (L.map (·.1)) key with
  | false =>
    rw [hk] at kh
    have HK := Lib.hid hk
    clear hk hR G S hl
    go_enter Try.func21, Try.ntmps21
    go_wp2_with fail
    refine kh.mono ?_
    rintro e w1 ⟨rfl, rfl⟩
    go_wp2_with fail
    go_ret
    refine ⟨_, [], rfl, ⟨List.Pairwise.nil, List.nodup_nil, fun k => ⟨fun h => by simp at h, fun h => ?_⟩⟩, by simp, Fresh.nil _ _ _⟩
    have := h.has0
    rw [HK.out] at this; cases this
  | true =>
    rw [hk] at kh
    have HK := Lib.hid hk
    clear hk hR G S hl
    go_enter Try.func21, Try.ntmps21
    go_wp2_with fail
    refine kh.mono ?_
    rintro e w1 ⟨rfl, hw1⟩
    have hw1' := hw1.symm
    clear hw1 kh
    subst hw1'
    go_wp2_with fail
    obtain ⟨K0, hK0⟩ : ∃ K0, w.heap.size = K0 := ⟨_, rfl⟩
    have hs0 : Slid (w.alloc (.cells #[.string (str key)] 9)) K0 (.slice (some ⟨K0, 0, none⟩) 1 1) [key] := Slid.one (Blk.new_at w _ _ hK0)
    have hc0 : Chg [] w (w.alloc (.cells #[.string (str key)] 9)) := (Chg.refl [] w).alloc _
    rw [hK0]
    go_loopg [5, 6, 7] (1 + wt (L.map (·.1)) []) (fun gk (v5 v6 v7 : Value) wr => ∃ (gt : Nat) (met work : List (List UInt8)), TwoR w wr gt v5 work v6 met ∧ Inv (L.map (·.1)) key met work ∧ (∀ j ∈ work, hasK (L.map (·.1)) j = true) ∧ gk = work.length + wt (L.map (·.1)) met)
    case atStart => exact ⟨K0, [], [key], ⟨hs0, by omega, (Fresh.nil w _ _).to hc0, by simp [Value.ownBlock]⟩, Inv.init _ _, fun j hj => by rw [List.mem_singleton.1 hj]; exact HK.out, rfl⟩
    case round =>
      clear hs0 hc0 hK0
      obtain ⟨gt, met, work, hT, hI, hhas, hgk⟩ := hrel
      obtain ⟨hs, hgt, hF, hdis⟩ := id hT
      obtain ⟨ao6, c6, rfl, hc6⟩ := hF.shape
      cases work with
      | nil =>
        obtain ⟨o', cp', cs', rfl, -, -, -, -⟩ := hs
        have kU := unique_any wr (.slice ao6 met.length c6) met hF.own.sees (by
          have := met_le hI.nd fun k hk => (hI.r1 k hk).has
          rw [List.length_map] at this
          have := HH.out.2.2.2; omega)
        have HI := Lib.hid (And.intro hI hF)
        clear hI hF hgk hdis hgt hT hhas
        go_wp2_with fail
        refine kU.mono ?_
        rintro e w2 ⟨v2, U, rfl, hFU, hU, hm⟩
        clear kU
        go_wp2_with fail
        go_ret
        have hA : Anc (L.map (·.1)) key U := ⟨hU.up, hU.nd, fun k => (hm k).trans (HI.out.1.done k)⟩
        refine ⟨_, U, rfl, hA, ?_, hFU.own, HI.out.2.chg.nil hFU.chg, fun b hb => by have := hFU.new b hb; have := HI.out.2.chg.size; omega⟩
        have h1 := met_le hU.nd fun k hk => ((hA.mem k).1 hk).has
        rw [List.length_map] at h1
        have := HH.out.2.2.2; omega
      | cons k rest =>
        obtain ⟨o', cp', rfl, hcp, x0, hs1, hs2⟩ := hs.next
        have hgl := hs.lt
        -- the tail's value
        obtain ⟨ot, hot, hst⟩ : ∃ ot, (if cp' = 1 then (some ⟨gt, o', none⟩ : Option Addr) else some ⟨gt, o' + 1, none⟩) = some ⟨gt, ot, none⟩ ∧ Slid wr gt (.slice (some ⟨gt, ot, none⟩) rest.length (cp' - 1)) rest := by
          by_cases h1 : cp' = 1
          · rw [if_pos h1]; exact ⟨o', rfl, hs1 h1⟩
          · rw [if_neg h1]; exact ⟨o' + 1, rfl, hs2⟩
        have kM := hasL_any (.slice ao6 met.length c6) met k wr hF.own.sees (by
          have := met_le hI.nd fun k hk => (hI.r1 k hk).has
          rw [List.length_map] at this
          have := HH.out.2.2.2; omega)
        have i1 : (0 : Int) < (rest.length : Int) + 1 := by omega
        have i2 : 1 ≤ rest.length + 1 := by omega
        have i3 : (1 : Int) ≤ (rest.length : Int) + 1 := by omega
        have i4 : rest.length + 1 ≤ cp' := hcp
        have hT2 : TwoR w wr gt (.slice (some ⟨gt, ot, none⟩) rest.length (cp' - 1)) rest (.slice ao6 met.length c6) met := ⟨hst, hgt, hF, hdis⟩
        have hh2 : ∀ j ∈ rest, hasK (L.map (·.1)) j = true := fun j hj => hhas j (by simp [hj])
        have hkg := hhas k (by simp)
        have HI := Lib.hid (And.intro hI (And.intro hT2 (And.intro hh2 (And.intro hgk hkg))))
        clear hI hF hdis hgt hgk hst hs hs1 hs2 hgl hT hT2 hhas hh2 hkg
        by_cases hkm : k ∈ met
        · rw [decide_eq_true hkm] at kM
          have HKM := Lib.hid hkm
          clear hkm
          go_upto_region 8 with (fail)
          try rw [hot]
          go_wp2_with (go_at_call 34; refine kM.mono ?_; rintro e w2 ⟨rfl, rfl⟩)
          obtain ⟨hI, hT, hh, hgk, hkg⟩ := HI.out
          go_roundg (rest.length + wt (L.map (·.1)) met)
          case measure => rw [hgk, List.length_cons]; omega
          case rel => exact ⟨gt, met, rest, hT, hI.skip1 HKM.out, hh, rfl⟩
        · rw [decide_eq_false hkm] at kM
          have HKM := Lib.hid hkm
          clear hkm
          go_upto_region 8 with (fail)
          try rw [hot]
          go_upto_region 9 with (go_at_call 34; refine kM.mono ?_; rintro e w2 ⟨rfl, rfl⟩)

          obtain ⟨hI, hT, hh, hgk, hkg⟩ := HI.out
          obtain ⟨hR, G, SS, hll⟩ := HH.out
          obtain ⟨q, hq, hqe, hqk, -⟩ := atI_has hkg
          have hqL : q < L.length := by rw [List.length_map] at hq; exact hq
          have kA : ∀ W, Chg [] w W → Calls Try.prog 35 #[.pointer (some ⟨p, 0, none⟩), .string (str k)] W fun e w' => e = .returned (.int .i64 (q : Int)) ∧ w' = W := fun W hW => by
            have := at_any (hR.chg hW) hll k
            rw [hqe] at this; exact this
          obtain ⟨pv, hbp, hN⟩ := hR
          obtain ⟨gn, offn, capn, aq, cq, hpv, hcn, hq2, x0n, x1, x2n, hcq⟩ := hN.cells hqL
          have hpp := hN.pars _ (List.getElem_mem hqL)
          rw [hq2] at hpp
          subst hpv
          have y0 : w.cell? ⟨p, 0, none⟩ = some (.slice (some ⟨gn, offn, none⟩) L.length capn) := hbp.cell 0
          have hxg : L[q].1 ∈ L.map (·.1) := List.mem_map.2 ⟨_, List.getElem_mem hqL, rfl⟩
          have hkey : L[q].1.key = k := by simpa using hqk
          have hnm : L[q].1.key ∉ met := by rw [hkey]; exact HKM.out
          have hwt := wt_take (L.map (·.1)) met hxg hnm
          rw [← hkey] at hI
          have hI2 := Inv.take1 G.1 hI hxg hnm
          rw [hkey] at hI2 hwt
          have hph : ∀ j ∈ L[q].1.parents, hasK (L.map (·.1)) j = true := fun j hj => (G.2 _ hxg j hj).1
          have hpaid := hI2.paid
          have hb1 : (rest.length + L[q].1.parents.length) * 16 ≤ 140737488355328 := by
            have h1 := SS.all
            have h2 := hI2.paid
            rw [List.length_append] at h2
            omega
          have hb2 : (met.length + 1) * 16 ≤ 140737488355328 := by
            have := met_le hI.nd fun k hk => (hI.r1 k hk).has
            rw [List.length_map] at this; omega
          have hb3 : met.length + 1 ≤ 9223372036854775807 := by omega
          have HF := Lib.hid (And.intro hwt (And.intro hI2 (And.intro hph (And.intro hh (And.intro hgk (And.intro hcn hcq))))))
          have i5 : (0:Int) ≤ (q:Int) := by omega
          have i6 : (q:Int) < (L.length : Int) := by omega
          clear hwt hI2 hph hh hgk hpaid hcn hcq hI hxg hkey hnm hqk hqe hq2 x0n x2n hN hbp hkg G SS hll hq kM HI i1 i2 i3 i4 hot hcp x0
          generalize hps : L[q].1.parents = ps at *
          clear hps hqL
          generalize hnl : L.length = nl at *
          have hT0 := hT.to ((Chg.refl [] w2).drew)
          have hcc : ∀ W, Chg (gt :: (Value.slice ao6 met.length c6).ownBlock.toList) w2.drew W → Chg [] w W := fun W c => hT0.fr.chg.trans c fun i hi => .inr (by
            rcases List.mem_cons.1 hi with rfl | hi
            · exact hT0.le
            · exact hT0.fr.new i hi)
          have c0 : Chg (gt :: (Value.slice ao6 met.length c6).ownBlock.toList) w2.drew w2.drew := Chg.refl _ _
          have hin : ∀ i ∈ (Value.slice ao6 met.length c6).ownBlock.toList, i ∈ gt :: (Value.slice ao6 met.length c6).ownBlock.toList := fun i hi => List.mem_cons_of_mem _ hi
          refine wp_region_E (gt :: (Value.slice ao6 met.length c6).ownBlock.toList) (by kernel_rfl) ?_
          refine wpAnyE_take 0 (v := (.slice ao6 met.length c6)) c0 rfl (by kernel_rfl) (by kernel_rfl) (by kernel_rfl) (fun _ _ _ h => h) (by rfl) (fun w4 c4 => ?_) ?_
          · go_simp
          try simp only [Act.put, List.getElem_toArray, List.getElem_cons_succ, List.getElem_cons_zero, List.setIfInBounds_toArray, List.set_cons_zero, List.set_cons_succ]
          refine wpAnyE_take 1 (v := (.string (str k))) c0 rfl (by kernel_rfl) (by kernel_rfl) (by kernel_rfl) (fun _ _ _ h => h) (by rfl) (fun w4 c4 => ?_) ?_
          · go_simp
          try simp only [Act.put, List.getElem_toArray, List.getElem_cons_succ, List.getElem_cons_zero, List.setIfInBounds_toArray, List.set_cons_zero, List.set_cons_succ]
          refine wpAnyE_take 4 (v := (.slice (some ⟨gt, ot, none⟩) rest.length (cp' - 1))) c0 rfl (by kernel_rfl) (by kernel_rfl) (by kernel_rfl) (fun _ _ _ h => h) (by rfl) (fun w4 c4 => ?_) ?_
          · go_simp
          try simp only [Act.put, List.getElem_toArray, List.getElem_cons_succ, List.getElem_cons_zero, List.setIfInBounds_toArray, List.set_cons_zero, List.set_cons_succ]
          refine wpAnyE_take 5 (v := (.pointer (some ⟨p, 0, none⟩))) c0 rfl (by kernel_rfl) (by kernel_rfl) (by kernel_rfl) (fun _ _ _ h => h) (by rfl) (fun w4 c4 => ?_) ?_
          · go_simp
          try simp only [Act.put, List.getElem_toArray, List.getElem_cons_succ, List.getElem_cons_zero, List.setIfInBounds_toArray, List.set_cons_zero, List.set_cons_succ]
          refine wpAnyE_take 6 (v := (.pointer (some ⟨p, 0, none⟩))) c0 rfl (by kernel_rfl) (by kernel_rfl) (by kernel_rfl) (fun _ _ _ h => h) (by rfl) (fun w4 c4 => ?_) ?_
          · have z := (hcc w4 c4).cell_some y0 (by simp)
            go_simp
          try simp only [Act.put, List.getElem_toArray, List.getElem_cons_succ, List.getElem_cons_zero, List.setIfInBounds_toArray, List.set_cons_zero, List.set_cons_succ]
          refine wpAnyE_take 7 (v := (.pointer (some ⟨p, 0, none⟩))) c0 rfl (by kernel_rfl) (by kernel_rfl) (by kernel_rfl) (fun _ _ _ h => h) (by rfl) (fun w4 c4 => ?_) ?_
          · have z := (hcc w4 c4).cell_some y0 (by simp)
            go_simp
          try simp only [Act.put, List.getElem_toArray, List.getElem_cons_succ, List.getElem_cons_zero, List.setIfInBounds_toArray, List.set_cons_zero, List.set_cons_succ]
          refine wpAnyE_take 8 (v := (.slice (some ⟨gn, offn, none⟩) nl capn)) c0 rfl (by kernel_rfl) (by kernel_rfl) (by kernel_rfl) (fun _ _ _ h => h) (by rfl) (fun w4 c4 => ?_) ?_
          · have z := (hcc w4 c4).cell_some y0 (by simp)
            go_simp
          try simp only [Act.put, List.getElem_toArray, List.getElem_cons_succ, List.getElem_cons_zero, List.setIfInBounds_toArray, List.set_cons_zero, List.set_cons_succ]
          refine wpAnyE_take 9 (v := (.pointer (some ⟨p, 0, none⟩))) c0 rfl (by kernel_rfl) (by kernel_rfl) (by kernel_rfl) (fun _ _ _ h => h) (by rfl) (fun w4 c4 => ?_) ?_
          · go_simp
          try simp only [Act.put, List.getElem_toArray, List.getElem_cons_succ, List.getElem_cons_zero, List.setIfInBounds_toArray, List.set_cons_zero, List.set_cons_succ]
          refine wpAnyE_take 10 (v := (.string (str k))) c0 rfl (by kernel_rfl) (by kernel_rfl) (by kernel_rfl) (fun _ _ _ h => h) (by rfl) (fun w4 c4 => ?_) ?_
          · go_simp
          try simp only [Act.put, List.getElem_toArray, List.getElem_cons_succ, List.getElem_cons_zero, List.setIfInBounds_toArray, List.set_cons_zero, List.set_cons_succ]
          refine wpAnyE_only 2 rfl (by kernel_rfl) (by rfl) ?_
          go_simp
          obtain ⟨KK, hKK⟩ : ∃ KK, w2.heap.size = KK := ⟨_, rfl⟩
          have hb : Blk (w2.alloc (.cells #[.string (str k)] 9)).drew KK #[.string (str k)] 9 := (Blk.new_at w2 #[.string (str k)] 9 hKK).drew
          have cB : Chg [] w2.drew (w2.alloc (.cells #[.string (str k)] 9)).drew := (Chg.refl [] w2.drew).alloc _
          rw [hKK]
          have c21 := c0.nil cB
          have T21 := hT0.to cB
          have hs1 := (Own.one hb).sees
          refine ⟨c21, ?_⟩
          generalize hw21 : (w2.alloc (.cells #[.string (str k)] 9)).drew = w21 at *
          clear cB hb hKK hw21
          try simp only [Act.put, List.getElem_toArray, List.getElem_cons_succ, List.getElem_cons_zero, List.setIfInBounds_toArray, List.set_cons_zero, List.set_cons_succ]
          refine wpAnyE_only 3 rfl (by kernel_rfl) (by rfl) ?_
          refine wp_app _ _ 30 (by rfl) sl_S (v := (.slice ao6 met.length c6)) (n := met.length) (xs := Sk met) T21.fr.own (by rfl) (vx := (.slice (some ⟨KK, 0, none⟩) 1 1)) (m := 1) (news := [.string (str k)]) hs1 (by rfl) (by intro u hu; rw [List.mem_singleton.1 hu]; rfl) hb2 hb3 ?_
          intro v26 w22 o22 e22 n22
          have c22 := c21.trans e22 fun i hi => .inl (hin i hi)
          have T22 := T21.app o22 e22 n22
          clear o22 e22 n22 hs1
          refine ⟨c22, ?_⟩
          try simp only [Act.put, List.getElem_toArray, List.getElem_cons_succ, List.getElem_cons_zero, List.setIfInBounds_toArray, List.set_cons_zero, List.set_cons_succ]
          refine wpAnyE_call 11 (f := 35) (args := #[(.pointer (some ⟨p, 0, none⟩)), .string (str k)]) (v := .int .i64 (q : Int)) c22 rfl (by kernel_rfl) (by kernel_rfl) (by kernel_rfl) (fun _ _ _ h => h) (by rfl) (fun w4 c4 => ?_) (fun w4 c4 => kA w4 (hcc w4 c4)) ?_
          · go_simp
          try simp only [Act.put, List.getElem_toArray, List.getElem_cons_succ, List.getElem_cons_zero, List.setIfInBounds_toArray, List.set_cons_zero, List.set_cons_succ]
          refine wpAnyE_take 12 (v := (.pointer (some ⟨gn, offn + q * 3, none⟩))) c22 rfl (by kernel_rfl) (by kernel_rfl) (by kernel_rfl) (fun _ _ _ h => h) (by rfl) (fun w4 c4 => ?_) ?_
          · have z := (hcc w4 c4).cell_some x1 (by simp)
            go_simp
          try simp only [Act.put, List.getElem_toArray, List.getElem_cons_succ, List.getElem_cons_zero, List.setIfInBounds_toArray, List.set_cons_zero, List.set_cons_succ]
          refine wpAnyE_take 13 (v := (.pointer (some ⟨gn, offn + q * 3 + 1, none⟩))) c22 rfl (by kernel_rfl) (by kernel_rfl) (by kernel_rfl) (fun _ _ _ h => h) (by rfl) (fun w4 c4 => ?_) ?_
          · have z := (hcc w4 c4).cell_some x1 (by simp)
            go_simp
          try simp only [Act.put, List.getElem_toArray, List.getElem_cons_succ, List.getElem_cons_zero, List.setIfInBounds_toArray, List.set_cons_zero, List.set_cons_succ]
          refine wpAnyE_take 14 (v := (.slice aq ps.length cq)) c22 rfl (by kernel_rfl) (by kernel_rfl) (by kernel_rfl) (fun _ _ _ h => h) (by rfl) (fun w4 c4 => ?_) ?_
          · have z := (hcc w4 c4).cell_some x1 (by simp)
            go_simp
          try simp only [Act.put, List.getElem_toArray, List.getElem_cons_succ, List.getElem_cons_zero, List.setIfInBounds_toArray, List.set_cons_zero, List.set_cons_succ]
          refine wpAnyE_only 15 rfl (by kernel_rfl) (by rfl) ?_
          refine wp_slid _ _ (by rfl) T22.sl (by rfl) (hpp.chg0 (hcc _ c22)) (by rfl) hb1 ?_
          intro g23 v25 w23 o23 e23 n23
          have c23 := c22.trans e23 fun i hi => .inl (by rw [List.mem_singleton.1 hi]; simp)
          have T23 := T22.slid o23 e23 n23
          clear o23 e23 n23
          refine ⟨c23, ?_⟩
          try simp only [Act.put, List.getElem_toArray, List.getElem_cons_succ, List.getElem_cons_zero, List.setIfInBounds_toArray, List.set_cons_zero, List.set_cons_succ]
          refine wpAnyE_take 16 (v := v26) c23 rfl (by kernel_rfl) (by kernel_rfl) (by kernel_rfl) (fun _ _ _ h => h) (by rfl) (fun w4 c4 => ?_) ?_
          · go_simp
          try simp only [Act.put, List.getElem_toArray, List.getElem_cons_succ, List.getElem_cons_zero, List.setIfInBounds_toArray, List.set_cons_zero, List.set_cons_succ]
          refine wpAnyE_take 17 (v := v25) c23 rfl (by kernel_rfl) (by kernel_rfl) (by kernel_rfl) (fun _ _ _ h => h) (by rfl) (fun w4 c4 => ?_) ?_
          · go_simp
          try simp only [Act.put, List.getElem_toArray, List.getElem_cons_succ, List.getElem_cons_zero, List.setIfInBounds_toArray, List.set_cons_zero, List.set_cons_succ]
          refine wpAnyE_done (by kernel_rfl) ?_ _
          go_wp2_with fail
          go_roundg ((rest ++ ps).length + wt (L.map (·.1)) (met ++ [k]))
          case measure => have h1 := HF.out.1; have h2 := HF.out.2.2.2.2.1; rw [h2, List.length_append, List.length_cons]; omega
          case rel =>
            obtain ⟨hwt, hI2, hph, hh, hgk, -⟩ := HF.out
            exact ⟨g23, met ++ [k], rest ++ ps, T23, hI2, fun j hj => (List.mem_append.1 hj).elim (hh j) (hph j), rfl⟩

end Go.Proofs.Ytphmplbcegibjaa
