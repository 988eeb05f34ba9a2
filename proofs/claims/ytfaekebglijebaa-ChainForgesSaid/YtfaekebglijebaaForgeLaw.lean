/- Signatures: what is recovered, and what a forged one shows. No program in sight. -/
import Derived.Test.YtfaekebglijebaaChainLaw
namespace Go.Proofs.Ytfaekebglijebaa

/-- 67 sums, one behind the other -/
def flatL (f : Nat → List UInt8) : List UInt8 := ((List.range 67).map f).flatten
def chunk32 (l : List UInt8) (c : Nat) : List UInt8 := (l.drop (32 * c)).take 32
def flatN (f : Nat → List UInt8) (n : Nat) : List UInt8 := ((List.range n).map f).flatten
theorem flatN_succ (f : Nat → List UInt8) (n : Nat) : flatN f (n + 1) = flatN f n ++ f n := by simp [flatN, List.range_succ]
theorem flatN_length (f : Nat → List UInt8) : ∀ n, (∀ c, c < n → (f c).length = 32) → (flatN f n).length = 32 * n
  | 0, _ => by simp [flatN]
  | n + 1, h => by rw [flatN_succ, List.length_append, flatN_length f n (fun c hc => h c (by omega)), h n (by omega)]; omega
theorem flatN_chunk (f : Nat → List UInt8) : ∀ n c, (∀ c, c < n → (f c).length = 32) → c < n → chunk32 (flatN f n) c = f c
  | n + 1, c, h, hc => by
    have hl := flatN_length f n (fun c hc => h c (by omega))
    have hn := h n (by omega)
    rw [flatN_succ]
    unfold chunk32
    by_cases hcn : c = n
    · subst hcn
      rw [List.drop_append_of_le_length (by omega), List.drop_of_length_le (by omega), List.nil_append, List.take_of_length_le (by omega)]
    · have ih := flatN_chunk f n c (fun c hc => h c (by omega)) (by omega)
      unfold chunk32 at ih
      rw [List.drop_append_of_le_length (by omega), List.take_append_of_le_length (by rw [List.length_drop]; omega), ih]
theorem chunk32_length (l : List UInt8) (c n : Nat) (h : l.length = 32 * n) (hc : c < n) : (chunk32 l c).length = 32 := by unfold chunk32; simp; omega
theorem chunks_eq : ∀ (n : Nat) (a b : List UInt8), a.length = 32 * n → b.length = 32 * n → (∀ c, c < n → chunk32 a c = chunk32 b c) → a = b
  | 0, a, b, ha, hb, _ => by rw [List.eq_nil_of_length_eq_zero (by omega : a.length = 0), List.eq_nil_of_length_eq_zero (by omega : b.length = 0)]
  | n + 1, a, b, ha, hb, h => by
    have h0 := h 0 (by omega)
    unfold chunk32 at h0
    simp only [Nat.mul_zero, List.drop_zero] at h0
    have ih := chunks_eq n (a.drop 32) (b.drop 32) (by simp; omega) (by simp; omega) (fun c hc => by
      have := h (c + 1) (by omega)
      unfold chunk32 at this ⊢
      rw [List.drop_drop, List.drop_drop, show 32 + 32 * c = 32 * (c + 1) by omega]
      exact this)
    rw [← List.take_append_drop 32 a, ← List.take_append_drop 32 b, h0, ih]

def u8c (c : Nat) : UInt8 := UInt8.ofNat c
def endL (seed : List UInt8) (key c : Nat) : List UInt8 := climbL key (u8c c) 15 0 (secretL seed key (u8c c))
def sigL (seed : List UInt8) (key : Nat) (m : List UInt8) (c : Nat) : List UInt8 := climbL key (u8c c) (digN67 m c) 0 (secretL seed key (u8c c))
def topL (key : Nat) (m sig : List UInt8) (c : Nat) : List UInt8 := climbL key (u8c c) (15 - digN67 m c) (digN67 m c) (chunk32 sig c)
def endsL (seed : List UInt8) (key : Nat) : List UInt8 := flatN (endL seed key) 67
def signL (seed : List UInt8) (key : Nat) (m : List UInt8) : List UInt8 := flatN (sigL seed key m) 67
def topsL (key : Nat) (m sig : List UInt8) : List UInt8 := flatN (topL key m sig) 67
def pressL (ends : List UInt8) : List UInt8 := sha (3 :: ends)
def publicL (seed : List UInt8) (key : Nat) : List UInt8 := pressL (endsL seed key)
def recoverL (key : Nat) (m sig : List UInt8) : List UInt8 := pressL (topsL key m sig)
theorem endL_length (seed : List UInt8) (key c : Nat) : (endL seed key c).length = 32 := climbL_length _ _ _ _ _ (secretL_length _ _ _)
theorem sigL_length (seed : List UInt8) (key : Nat) (m : List UInt8) (c : Nat) : (sigL seed key m c).length = 32 := climbL_length _ _ _ _ _ (secretL_length _ _ _)
theorem topL_length (key : Nat) (m sig : List UInt8) (c : Nat) (h : sig.length = 32 * 67) (hc : c < 67) : (topL key m sig c).length = 32 := climbL_length _ _ _ _ _ (chunk32_length _ _ 67 h hc)
theorem endsL_length (seed : List UInt8) (key : Nat) : (endsL seed key).length = 2144 := flatN_length _ 67 (fun c _ => endL_length _ _ c)
theorem signL_length (seed : List UInt8) (key : Nat) (m : List UInt8) : (signL seed key m).length = 2144 := flatN_length _ 67 (fun c _ => sigL_length _ _ _ c)
theorem topsL_length (key : Nat) (m sig : List UInt8) (h : sig.length = 2144) : (topsL key m sig).length = 2144 := flatN_length _ 67 (fun c hc => topL_length _ _ _ c h hc)
theorem top_own (seed : List UInt8) (key : Nat) (m : List UInt8) (c : Nat) (hc : c < 67) : topL key m (signL seed key m) c = endL seed key c := by
  unfold topL signL
  rw [flatN_chunk _ 67 c (fun c _ => sigL_length _ _ _ c) hc]
  unfold sigL endL
  have h := digN67_lt m c
  have e := climbL_add key (u8c c) (digN67 m c) (15 - digN67 m c) 0 (secretL seed key (u8c c))
  rw [show digN67 m c + (15 - digN67 m c) = 15 by omega, Nat.zero_add] at e
  rw [e]
theorem tops_own (seed : List UInt8) (key : Nat) (m : List UInt8) : topsL key m (signL seed key m) = endsL seed key := by
  unfold topsL endsL flatN
  congr 1
  exact List.map_congr_left fun c hc => top_own seed key m c (List.mem_range.1 hc)
theorem recover_own (seed : List UInt8) (key : Nat) (m : List UInt8) : recoverL key m (signL seed key m) = publicL seed key := by
  unfold recoverL publicL; rw [tops_own]

/-! ### what a forged signature shows -/
def ph3 (key : Nat) (c : UInt8) : Nat → Nat → List UInt8 → List UInt8 → Bool
  | 0, _, _, _ => false
  | n + 1, h, x, y => if x = y then false else if stepL key c (UInt8.ofNat h) x = stepL key c (UInt8.ofNat h) y then true else ph3 key c n (h + 1) (stepL key c (UInt8.ofNat h) x) (stepL key c (UInt8.ofNat h) y)
theorem ph3_true (key : Nat) (c : UInt8) : ∀ (n h : Nat) (x y : List UInt8), x ≠ y → climbL key c n h x = climbL key c n h y → ph3 key c n h x y = true
  | 0, _, _, _, hne, he => absurd he hne
  | n + 1, h, x, y, hne, he => by
    unfold ph3
    rw [if_neg hne]
    split
    · rfl
    · rename_i h2
      exact ph3_true key c n (h + 1) _ _ h2 he
def meetsL (key : Nat) (c : UInt8) (x : List UInt8) (a : Nat) (y : List UInt8) (b : Nat) : Bool :=
  if a < b then (if climbL key c (b - a) a x = y then true else ph3 key c (15 - b) b (climbL key c (b - a) a x) y) else ph3 key c (15 - a) a x (climbL key c (a - b) b y)
theorem forged (seed : List UInt8) (key : Nat) (honest m sig : List UInt8) (hh : honest.length = 32) (hm : m.length = 32) (hs : sig.length = 2144) (ht : topsL key m sig = endsL seed key) (hno : ¬ (m = honest ∧ sig = signL seed key honest)) :
    ∃ c, c < 67 ∧ meetsL key (u8c c) (chunk32 sig c) (digN67 m c) (sigL seed key honest c) (digN67 honest c) = true := by
  have htop : ∀ c, c < 67 → topL key m sig c = endL seed key c := fun c hc => by
    have h1 := flatN_chunk (topL key m sig) 67 c (fun c hc => topL_length _ _ _ c hs hc) hc
    have h2 := flatN_chunk (endL seed key) 67 c (fun c _ => endL_length _ _ c) hc
    rw [← h1, ← h2]
    show chunk32 (topsL key m sig) c = chunk32 (endsL seed key) c
    rw [ht]
  have hend : ∀ c, climbL key (u8c c) (15 - digN67 honest c) (digN67 honest c) (sigL seed key honest c) = endL seed key c := fun c => by
    have h := digN67_lt honest c
    have e := climbL_add key (u8c c) (digN67 honest c) (15 - digN67 honest c) 0 (secretL seed key (u8c c))
    rw [show digN67 honest c + (15 - digN67 honest c) = 15 by omega, Nat.zero_add] at e
    exact e.symm
  by_cases hmh : m = honest
  · subst hmh
    have hsn : sig ≠ signL seed key m := fun e => hno ⟨rfl, e⟩
    have hex : ∃ c, c < 67 ∧ chunk32 sig c ≠ chunk32 (signL seed key m) c := by
      refine Classical.byContradiction fun hn => hsn (chunks_eq 67 _ _ hs (signL_length _ _ _) fun c hc => ?_)
      exact Classical.byContradiction fun hne => hn ⟨c, hc, hne⟩
    obtain ⟨c, hc, hne⟩ := hex
    have h1 : chunk32 (signL seed key m) c = sigL seed key m c := flatN_chunk _ 67 c (fun c _ => sigL_length _ _ _ c) hc
    rw [h1] at hne
    refine ⟨c, hc, ?_⟩
    unfold meetsL
    rw [if_neg (by omega), Nat.sub_self]
    refine ph3_true _ _ _ _ _ _ hne ?_
    exact (htop c hc).trans (hend c).symm
  · obtain ⟨c, hc, hlt⟩ := digits_lower m honest hm hh hmh
    refine ⟨c, hc, ?_⟩
    unfold meetsL
    rw [if_pos hlt]
    split
    · rfl
    · rename_i hne
      refine ph3_true _ _ _ _ _ _ hne ?_
      have h15 := digN67_lt honest c
      have e := climbL_add key (u8c c) (digN67 honest c - digN67 m c) (15 - digN67 honest c) (digN67 m c) (chunk32 sig c)
      rw [show digN67 honest c - digN67 m c + (15 - digN67 honest c) = 15 - digN67 m c by omega, show digN67 m c + (digN67 honest c - digN67 m c) = digN67 honest c by omega] at e
      rw [← e]
      exact (htop c hc).trans (hend c).symm
end Go.Proofs.Ytfaekebglijebaa
