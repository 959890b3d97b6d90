/- dag.Len; an ancestors' list that is owned. No statement of the seat is proved here. -/
import Derived.Test.YtphmplbcegibjaaDmPlain
import Derived.Test.YtphmplbcegibjaaDlA
set_option linter.unusedVariables false
set_option linter.unusedSimpArgs false
namespace Go.Proofs.Ytphmplbcegibjaa
open Go.RowKit Go.Aq Go.Aq.Dg Go.Maps Go.Aq.So

theorem GraphB.count {w : World} {p b : Nat} {f : Value → Option Value} {g : List NodeD} (nd : (g.map (·.key)).Nodup) (h : GraphB w p b f g) :
    ∃ es clock, w.heap[b]? = some (.map es clock) ∧ es.size = g.length := by
  obtain ⟨-, ⟨es, clock, h1, h2, h3, h4⟩, h5, h6⟩ := h
  refine ⟨es, clock, h1, ?_⟩
  have hk : ∀ e ∈ es.toList, ∃ k : List UInt8, e.key = .string (str k) ∧ hasK g k = true := by
    intro e he
    obtain ⟨hg, hf⟩ := h3 e he
    obtain ⟨lit, hlit⟩ := hg
    obtain ⟨x, hx, -, -⟩ := Maps.keyOf_str Try.underlying9 hlit
    exact ⟨x, hx, h6 x e.val (by have := hf; rw [hx] at this; exact this)⟩
  have hle1 : es.toList.length ≤ g.length := by
    have h := nodup_le (es.toList.map (·.key)) ((g.map (·.key)).map fun k => Value.string (str k)) h2 (fun v hv => by
      obtain ⟨e, he, rfl⟩ := List.mem_map.1 hv
      obtain ⟨k, hk1, hk2⟩ := hk e he
      obtain ⟨x, hx, rfl⟩ := hasK_iff.1 hk2
      rw [hk1]
      exact List.mem_map.2 ⟨x.key, List.mem_map.2 ⟨x, hx, rfl⟩, rfl⟩)
    simpa using h
  have hle2 : g.length ≤ es.toList.length := by
    have h := nodup_le ((g.map (·.key)).map fun k => Value.string (str k)) (es.toList.map (·.key)) (by
      refine List.Pairwise.map _ (fun a b hab e => hab ?_) nd
      injection e with e
      exact str_inj e) (fun v hv => by
      obtain ⟨k, hk1, rfl⟩ := List.mem_map.1 hv
      obtain ⟨x, hx, rfl⟩ := List.mem_map.1 hk1
      obtain ⟨u, hu, -⟩ := h5 x hx
      obtain ⟨e, he, hke⟩ := h4 _ u hu
      exact List.mem_map.2 ⟨e, he, hke⟩)
    simpa using h
  simp at hle1 hle2
  omega
set_option maxRecDepth 100000 in
theorem len_any {w : World} {p : Nat} {g : List NodeD} (nd : (g.map (·.key)).Nodup) (h : GraphR w p g) :
    Calls Try.prog 16 #[.pointer (some ⟨p, 0, none⟩)] w fun e w' => e = .returned (.int .i64 (g.length : Int)) ∧ Chg [] w w' := by
  obtain ⟨b, f, h⟩ := h
  obtain ⟨es, clock, hm, hs⟩ := GraphB.count nd h
  have c0 := h.1.c1
  clear h nd
  rw [← hs]
  clear hs
  have hlen : (Builtin.len_ #[46] 3 #[.map (some b)]).run Try.prog w = .ok (.int .i64 (es.size : Int)) w := run_len_map (P := Try.prog) (w := w) 46 3 b es clock (by kernel_rfl) hm
  clear hm
  go_enter Try.func16, Try.ntmps16
  go_wp2_with fail
  go_ret
  exact ⟨rfl, Chg.refl _ _⟩
set_option maxRecDepth 100000 in
theorem anc_fresh {w : World} {p : Nat} {g : List NodeD} (nd : (g.map (·.key)).Nodup) (S : SmallG g) (h : GraphR w p g) (a : List UInt8) (ha : a.length ≤ 1048576) :
    Calls Try.prog 12 #[.pointer (some ⟨p, 0, none⟩), .string (str a)] w fun e w' => ∃ (v : Value) (ss : List (List UInt8)), e = .returned v ∧ Anc g a ss ∧ ss.length ≤ 2097152 ∧ Fresh w w' 9 1 v ss.length (Sk ss) := by
  refine (ancestors_own nd S h a ha).mono ?_
  rintro e w' ⟨ss, h1, h2, h3, ⟨rfl, rfl⟩ | ⟨K, cap, rfl, hK, hr⟩⟩
  · exact ⟨_, [], rfl, h1, by simp, (Fresh.nil w _ _).to h3⟩
  · exact ⟨_, ss, rfl, h1, h2, hr, h3, fun k hk => by simp [Value.ownBlock] at hk; omega⟩
end Go.Proofs.Ytphmplbcegibjaa
