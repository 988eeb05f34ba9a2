/- What is loaded is what was saved, and the other way round. Plain. -/
import Derived.Test.YtgagpbbmlpbjpaaLoad
namespace Go.Proofs.Ytgagpbbmlpbjpaa

theorem beNat_foldl : ∀ (p : List UInt8) (n : Nat), p.foldl (fun n x => n * 256 + x.toNat) n = n * 256 ^ p.length + beNat p
  | [], n => by simp [beNat]
  | x :: p, n => by
    rw [List.foldl_cons, beNat_foldl p]
    have h2 : beNat (x :: p) = (0 * 256 + x.toNat) * 256 ^ p.length + beNat p := by
      show List.foldl _ 0 (x :: p) = _
      rw [List.foldl_cons, beNat_foldl p]
    rw [h2, List.length_cons, Nat.pow_succ, Nat.zero_mul, Nat.zero_add, Nat.add_mul, Nat.mul_assoc, Nat.mul_comm 256 (256 ^ p.length), Nat.add_assoc]
theorem beNat_cons (x : UInt8) (p : List UInt8) : beNat (x :: p) = x.toNat * 256 ^ p.length + beNat p := by
  show List.foldl _ 0 (x :: p) = _
  rw [List.foldl_cons, beNat_foldl p]; simp
theorem beNat_beBytes (n : Nat) : ∀ k, beNat (beBytes n k) = n % 256 ^ k
  | 0 => by simp [beBytes, beNat, Nat.mod_one]
  | k + 1 => by
    rw [beBytes, beNat_cons, beBytes_length, beNat_beBytes n k, Nat.pow_succ, Nat.mod_mul]
    unfold beByte
    rw [UInt8.toNat_ofNat', Nat.add_comm, Nat.mul_comm]
theorem beNat_inj : ∀ (k : Nat) (p q : List UInt8), p.length = k → q.length = k → beNat p = beNat q → p = q
  | 0, p, q, hp, hq, _ => by rw [List.eq_nil_of_length_eq_zero hp, List.eq_nil_of_length_eq_zero hq]
  | k + 1, p, q, hp, hq, h => by
    rcases List.eq_nil_or_concat p with rfl | ⟨p', x, rfl⟩
    · simp at hp
    rcases List.eq_nil_or_concat q with rfl | ⟨q', y, rfl⟩
    · simp at hq
    rw [List.concat_eq_append] at *
    rw [List.concat_eq_append] at *
    rw [beNat_snoc, beNat_snoc] at h
    have hx := x.toNat_lt
    have hy := y.toNat_lt
    have h1 : beNat p' = beNat q' := by omega
    have h2 : x.toNat = y.toNat := by omega
    rw [beNat_inj k p' q' (by simpa using hp) (by simpa using hq) h1, UInt8.toNat_inj.1 h2]
theorem beBytes_beNat (p : List UInt8) : beBytes (beNat p) p.length = p := by
  refine beNat_inj p.length _ _ (beBytes_length _ _) rfl ?_
  rw [beNat_beBytes, Nat.mod_eq_of_lt (beNat_lt _ p rfl)]
theorem wordIn_bytes (b : List UInt8) (i : Nat) (h : i + 4 ≤ b.length) : beBytes (wordIn b i).toNat 4 = (b.drop i).take 4 := by
  have hl : ((b.drop i).take 4).length = 4 := by simp; omega
  have h1 := beNat_lt 4 _ hl
  unfold wordIn
  rw [UInt32.toNat_ofNat', Nat.mod_eq_of_lt (by have : (256 : Nat) ^ 4 = 4294967296 := by decide
                                                omega)]
  have := beBytes_beNat ((b.drop i).take 4)
  rwa [hl] at this
theorem wordBytes_in (b : List UInt8) (h : 32 ≤ b.length) : wordBytes (wordsIn b) = b.take 32 := by
  have : ∀ k, k ≤ 8 → wordBytes ((wordsIn b).take k) = b.take (4 * k) := by
    intro k
    induction k with
    | zero => intro _; simp [wordBytes]
    | succ k ih =>
      intro hk
      rw [take_snoc32 _ k (by rw [wordsIn_length]; omega), wordBytes_snoc, ih (by omega), wordsIn_get b k (by omega), wordIn_bytes b (4 * k) (by omega), show 4 * (k + 1) = 4 * k + 4 by omega, List.take_add]
  have h8 := this 8 (by omega)
  rwa [List.take_of_length_le (by rw [wordsIn_length]; omega)] at h8
theorem save_load (b : List UInt8) (h : LoadOk b) : saveOf (loadS b) (nIn b) = b := by
  obtain ⟨h40, hm, hl⟩ := h
  unfold saveOf loadS
  have e1 : bytesOf (v8of (wordsIn b)) = b.take 32 := by
    rw [show bytesOf (v8of (wordsIn b)) = wordBytes (wordsOf (v8of (wordsIn b))) from rfl, wordsOf_v8of _ (wordsIn_length b), wordBytes_in b (by omega)]
  have e2 : beBytes (nIn b) 8 = (b.drop 32).take 8 := by
    have hl8 : ((b.drop 32).take 8).length = 8 := by simp; omega
    have := beBytes_beNat ((b.drop 32).take 8)
    rwa [hl8] at this
  simp only [e1, e2]
  rw [show b.drop 40 = (b.drop 32).drop 8 by rw [List.drop_drop], List.append_assoc, List.take_append_drop, List.take_append_drop]
theorem save_parts (s : V8 × List UInt8) (n : Nat) : (saveOf s n).take 32 = bytesOf s.1 ∧ ((saveOf s n).drop 32).take 8 = beBytes n 8 ∧ (saveOf s n).drop 40 = s.2 := by
  have h1 := bytesOf_length s.1
  have h2 := beBytes_length n 8
  unfold saveOf
  refine ⟨?_, ?_, ?_⟩
  · rw [List.append_assoc, List.take_append_of_le_length (by omega), List.take_of_length_le (by omega)]
  · rw [List.append_assoc, List.drop_append_of_le_length (by omega), List.drop_of_length_le (by omega), List.nil_append, List.take_append_of_le_length (by omega), List.take_of_length_le (by omega)]
  · rw [List.drop_append_of_le_length (by simp [h1, h2]), List.drop_of_length_le (by simp [h1, h2]), List.nil_append]
theorem word_of_bytes (x : UInt32) (r : List UInt8) : wordIn (beBytes x.toNat 4 ++ r) 0 = x := by
  unfold wordIn
  rw [List.drop_zero, List.take_append_of_le_length (by rw [beBytes_length]; omega), List.take_of_length_le (by rw [beBytes_length]; omega), beNat_beBytes]
  have := x.toNat_lt
  rw [Nat.mod_eq_of_lt (by have : (256 : Nat) ^ 4 = 4294967296 := by decide
                           omega)]
  exact UInt32.ofNat_toNat
theorem wordIn_drop (b : List UInt8) (i j : Nat) : wordIn (b.drop i) j = wordIn b (i + j) := by unfold wordIn; rw [List.drop_drop]
theorem wordBytes_word (ws : List UInt32) (r : List UInt8) (k : Nat) (h : k < ws.length) : wordIn (wordBytes ws ++ r) (4 * k) = ws.getD k 0 := by
  have e : wordBytes ws = wordBytes (ws.take k) ++ (beBytes (ws.getD k 0).toNat 4 ++ wordBytes (ws.drop (k + 1))) := by
    have e0 : ws.take k ++ (ws[k] :: ws.drop (k + 1)) = ws := by rw [← List.drop_eq_getElem_cons h, List.take_append_drop]
    have e1 := congrArg wordBytes e0
    rw [← e1]
    have e2 : ws.getD k 0 = ws[k] := by simp [List.getD_eq_getElem?_getD, List.getElem?_eq_getElem h]
    rw [e2]
    simp only [wordBytes, List.flatMap_append, List.flatMap_cons]
  have h2 := wordIn_drop (wordBytes ws ++ r) (4 * k) 0
  rw [Nat.add_zero] at h2
  rw [← h2, e, List.append_assoc, List.drop_append_of_le_length (by rw [wordBytes_length]; simp; omega), List.drop_of_length_le (by rw [wordBytes_length]; simp; omega), List.nil_append, List.append_assoc, word_of_bytes]
theorem load_save (s : V8 × List UInt8) (n : Nat) (hn : n ≤ 2305843009213693951) (ht : s.2.length = n % 64) : LoadOk (saveOf s n) ∧ loadS (saveOf s n) = s ∧ nIn (saveOf s n) = n := by
  obtain ⟨_, e2, e3⟩ := save_parts s n
  have hN : nIn (saveOf s n) = n := by
    unfold nIn
    rw [e2, beNat_beBytes, Nat.mod_eq_of_lt (by have : (256 : Nat) ^ 8 = 18446744073709551616 := by decide
                                                omega)]
  have hlen := saveOf_length s n
  refine ⟨⟨by omega, by rw [hN]; exact hn, by rw [hN, hlen, ht]⟩, ?_, hN⟩
  unfold loadS
  rw [e3]
  have hw : wordsIn (saveOf s n) = wordsOf s.1 := by
    refine List.ext_getElem (by rw [wordsIn_length]; rfl) fun k h1 h2 => ?_
    rw [wordsIn_length] at h1
    have h3 := wordsIn_get (saveOf s n) k h1
    have h4 := wordBytes_word (wordsOf s.1) (beBytes n 8 ++ s.2) k (by simp [wordsOf]; exact h1)
    rw [← List.append_assoc] at h4
    have h5 : wordIn (saveOf s n) (4 * k) = (wordsOf s.1).getD k 0 := h4
    rw [h5] at h3
    simpa [List.getD_eq_getElem?_getD, List.getElem?_eq_getElem h2, List.getElem?_eq_getElem (show k < (wordsIn (saveOf s n)).length by rw [wordsIn_length]; exact h1)] using h3
  rw [hw]
  rfl
end Go.Proofs.Ytgagpbbmlpbjpaa
