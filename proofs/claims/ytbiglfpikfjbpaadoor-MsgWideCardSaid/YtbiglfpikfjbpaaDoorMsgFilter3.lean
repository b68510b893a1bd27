/- A message's reader: the filter of any tree. -/
import Derived.Test.YtbiglfpikfjbpaaDoorMsgFilter2
namespace Go.Proofs.YtbiglfpikfjbpaaDoor
open Go.RowKit
set_option maxRecDepth 100000
set_option linter.unusedVariables false
set_option linter.unusedSimpArgs false

theorem Tl.fews_mem : ∀ {ks : List Tl}, Tl.fews ks → ∀ k ∈ ks, k.few
  | [], _, k, h => by simp at h
  | x :: ks, hf, k, h => by
    unfold Tl.fews at hf
    rcases List.mem_cons.1 h with rfl | h
    · exact hf.1
    · exact Tl.fews_mem hf.2 k h

mutual
theorem filter_any : ∀ (k : Tl) (hf : k.few) (cs : Array Value) (S : Nat → Prop) (w : World), TlAt w S k cs → Calls Tryd.prog 82 #[.agg cs] w (FilPost (filP k) w)
  | .mk c k t s ks, hf, cs, S, w, h => by
    have ih := filters_any ks
    unfold Tl.few at hf
    unfold TlAt at h
    obtain ⟨A, cap, rfl, hl, hwc, hwt, hs, hk⟩ := h
    by_cases h0 : c ≠ 2 ∨ k = (t == 7)
    · exact (filter_no c k t s A ks.length cap w h0).mono fun e w' he => ⟨he.1, .inl ⟨by unfold filP; rw [if_pos h0], he.2⟩⟩
    have hc : c = 2 := by by_cases h : c = 2; exact h; exact absurd (.inl h) h0
    have hkt : k ≠ (t == 7) := fun h => h0 (.inr h)
    subst hc
    by_cases h7 : t = 7
    · subst h7
      have hkf : k = false := by cases k <;> simp_all
      subst hkf
      have e : filP (.mk 2 false 7 s ks) = some (.mk 7 s ⟨#[]⟩ ⟨#[]⟩ [] ⟨#[]⟩ []) := by unfold filP; rw [if_neg h0, if_neg (by omega), if_pos rfl]
      rw [e]
      exact filter_has s A ks.length cap w hs
    have hkf : k = true := by
      have : (t == 7) = false := by simpa using h7
      rw [this] at hkt
      cases k <;> simp_all
    subst hkf
    by_cases h2 : t ≤ 2
    · have e : filP (.mk 2 true t s ks) = (filsP ks).map fun l => .mk t ⟨#[]⟩ ⟨#[]⟩ ⟨#[]⟩ [] ⟨#[]⟩ l := by unfold filP; rw [if_neg h0, if_pos h2]
      rw [e]
      exact filter_many t ks S A s cap w h2 hwt hf hl hk (fun k hk cs S w ht => ih k hk (Tl.fews_mem hf.2 k hk) cs S w ht)
    by_cases h4 : t = 4
    · subst h4
      have e : filP (.mk 2 true 4 s ks) = partP ks := by unfold filP partP; rw [if_neg h0, if_neg (by omega), if_neg (by omega), if_pos rfl]
      rw [e]
      exact filter_part ks S A s cap w hf hl hk
    by_cases h8 : t ≤ 8
    · have e : filP (.mk 2 true t s ks) = pairP t ks := by unfold filP pairP; rw [if_neg h0, if_neg h2, if_neg h7, if_neg h4, if_pos h8]
      rw [e]
      exact filter_pair t ks S A s cap w (by omega) h8 h7 h4 hwt hl hk
    by_cases h9 : t = 9
    · subst h9
      have e : filP (.mk 2 true 9 s ks) = some (.mk 7 ⟨#[63]⟩ ⟨#[]⟩ ⟨#[]⟩ [] ⟨#[]⟩ []) := by unfold filP; rw [if_neg h0, if_neg (by omega), if_neg (by omega), if_neg (by omega), if_neg (by omega), if_pos rfl]
      rw [e]
      exact filter_same A s ks.length cap w
    · have e : filP (.mk 2 true t s ks) = none := by unfold filP; rw [if_neg h0, if_neg h2, if_neg h7, if_neg h4, if_neg h8, if_neg h9]
      rw [e]
      exact (filter_far t A s ks.length cap w (by omega)).mono fun e w' he => ⟨he.1, .inl ⟨rfl, he.2⟩⟩
theorem filters_any : ∀ (ks : List Tl), ∀ k ∈ ks, k.few → ∀ (cs : Array Value) (S : Nat → Prop) (w : World), TlAt w S k cs → Calls Tryd.prog 82 #[.agg cs] w (FilPost (filP k) w)
  | [], k, h => by simp at h
  | x :: ks, k, h => fun hf cs S w ht => by
    have h1 := filter_any x
    have h2 := filters_any ks
    rcases List.mem_cons.1 h with rfl | h
    · exact h1 hf cs S w ht
    · exact h2 k h hf cs S w ht
end
end Go.Proofs.YtbiglfpikfjbpaaDoor
