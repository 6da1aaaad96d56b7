/-
 PushPieces, plain: whatever the pieces, the same archive; behind its end nothing more.
-/
import Derived.Test.YtpbpfngichfgeaaGreatDoorPFedx3
namespace Go.Proofs.YtpbpfngichfgeaaGreatDoor.PFed
set_option linter.unusedVariables false
set_option linter.unusedSimpArgs false
open Go Go.RowKit Go.Proofs.YtpbpfngichfgeaaGreatDoor Go.Proofs.YtpbpfngichfgeaaGreatDoorW.PrintWords Go.Proofs.YtpbpfngichfgeaaGreatDoorW.PrintLast Go.Proofs.YtpbpfngichfgeaaGreatDoorW.PrintMore

theorem w64 {x : Int} (h0 : -9223372036854775808 ≤ x) (h1 : x ≤ 9223372036854775807) : wrap64 x = x := by unfold wrap64; omega
theorem same_l0 (T : List S57) (d : Bool) (c p : Int) (hT : T.length ≤ 1000000) : ∀ (m k i : Nat), T.length - i = m → i ≤ T.length → m < k → pannierlaw12_same.l0 k (T.length : Int) (i : Int) T d c p T d c p = some true
 | 0, k, i, hm, hi, hk => by
  obtain ⟨k, rfl⟩ : ∃ q, k = q + 1 := ⟨k - 1, by omega⟩
  obtain rfl : i = T.length := by omega
  simp only [pannierlaw12_same.l0]
  rw [if_neg (by omega)]
 | m + 1, k, i, hm, hi, hk => by
  obtain ⟨k, rfl⟩ : ∃ q, k = q + 1 := ⟨k - 1, by omega⟩
  simp only [pannierlaw12_same.l0]
  rw [if_pos (by omega), if_pos (by omega), if_pos (by omega), if_pos (by omega), if_neg (by simp)]
  have e : wrap64 ((i : Int) + 1) = ((i + 1 : Nat) : Int) := by rw [w64 (by omega) (by omega)]; omega
  rw [e]
  exact same_l0 T d c p hT m k (i + 1) (by omega) (by omega) (by omega)
theorem same_refl (T : List S57) (d : Bool) (c p : Int) (hT : T.length ≤ 1000000) (k : Nat) (hk : T.length + 2 ≤ k) : pannierlaw12_same.f k T d c p T d c p = some true := by
 obtain ⟨k, rfl⟩ : ∃ q, k = q + 1 := ⟨k - 1, by omega⟩
 unfold pannierlaw12_same.f
 have e1 : ((d != d) = true) = False := by simp
 simp only [e1, if_false, if_true]
 have e2 : ((T.length : Int) != (T.length : Int)) = false := by simp
 rw [e2, pannierlaw12_same.j0, if_neg (by decide)]
 exact same_l0 T d c p hT T.length k 0 (by omega) (by omega) (by omega)
theorem arc_len (xs : List Int) (hb : ∀ x ∈ xs, 0 ≤ x ∧ x < 256) (hl : xs.length ≤ 100000) : ((arcOf xs).things.map toS).length ≤ 200000 := by
 obtain ⟨s, b, h1, h2, h3, h4, h5, h6⟩ := fold0 xs hb (by omega)
 have q := foldB_len xs ps0 s arc0 b oks0 hb (by show (0 : Int) + _ ≤ _; omega) h1
 have e : (arcOf xs).things = b.things := by
  unfold arcOf
  rw [h1]
  show (b.close s).things = b.things
  unfold Arc.close
  split <;> rfl
 have hz : arc0.things.length = 0 := rfl
 rw [List.length_map, e]
 omega
theorem fed_f (l0 l1 : List Int) (hb : ∀ x ∈ l0, 0 ≤ x ∧ x < 256) (h0 : l0.length ≤ 100000) (h1 : l1.length ≤ 1000) : pannierlaw12_fed.f l0 l1 = some ((arcOf l0).things.map toS, (arcOf l0).done, (arcOf l0).code, (arcOf l0).place, true) := by
 unfold pannierlaw12_fed.f
 rw [if_pos ⟨bytesB_mk hb, h0, h1⟩]
theorem pieces_law (l0 l1 l2 : List Int) (hb0 : ∀ x ∈ l0, 0 ≤ x ∧ x < 256) (hb1 : ∀ x ∈ l1, 0 ≤ x ∧ x < 256) : ∃ k, pannierlaw12_PushPieces.f k l0 l1 l2 = some true := by
 refine ⟨200010, ?_⟩
 unfold pannierlaw12_PushPieces.f pannierlaw12_reads.f
 simp only [Option.bind_some, if_true]
 by_cases h0 : (l0.length : Int) > 20000
 ·rw [if_pos h0, pannierlaw12_PushPieces.j0, if_pos rfl]
 ·rw [if_neg h0]
  by_cases h1 : (l1.length : Int) > 2000
  ·rw [if_pos h1, pannierlaw12_PushPieces.j0, if_pos rfl]
  ·rw [if_neg h1]
   by_cases h2 : (l2.length : Int) > 200
   ·rw [show decide ((l2.length : Int) > 200) = true by simpa using h2, pannierlaw12_PushPieces.j0, if_pos rfl]
   ·rw [show decide ((l2.length : Int) > 200) = false by simpa using h2, pannierlaw12_PushPieces.j0, if_neg (by decide)]
    rw [fed_f l0 [] hb0 (by omega) (by simp), fed_f l0 l2 hb0 (by omega) (by omega)]
    simp only [Option.bind_some, if_true]
    have hl := arc_len l0 hb0 (by omega)
    rw [same_refl _ _ _ _ (by omega) _ (by omega)]
    simp only [Option.bind_some]
    rw [pannierlaw12_PushPieces.j1, if_neg (by decide)]
    have key : ∀ (k : Nat) (b : Bool), k ≥ 200005 → (b = false → ¬ ((arcOf l0).done = false ∧ (arcOf l0).code = 5)) →
      pannierlaw12_PushPieces.j2 k l0 l1 l2 b ((arcOf l0).things.map toS) (arcOf l0).done (arcOf l0).code (arcOf l0).place = some true := by
     intro k b hk hb
     obtain ⟨k, rfl⟩ : ∃ q, k = q + 1 := ⟨k - 1, by omega⟩
     rw [pannierlaw12_PushPieces.j2]
     cases b with
     | true => rw [if_pos rfl]
     | false =>
      rw [if_neg (by decide)]
      simp only [Option.bind_some, List.nil_append, List.length_nil]
      rw [if_pos (by omega), if_pos (by omega)]
      have hb01 : ∀ x ∈ l0 ++ l1, 0 ≤ x ∧ x < 256 := fun x hx => by
       rcases List.mem_append.1 hx with h | h
       ·exact hb0 x h
       ·exact hb1 x h
      rw [fed_f (l0 ++ l1) l2 hb01 (by rw [List.length_append]; omega) (by omega), arcOf_over l0 hb0 (by omega) (hb rfl) l1]
      simp only [Option.bind_some, if_true]
      rw [same_refl _ _ _ _ (by omega) _ (by omega)]
      rfl
    cases hd : (arcOf l0).done with
    | true =>
     rw [if_pos rfl]
     have := key 200008 false (by omega) (fun _ => by rw [hd]; simp)
     rw [hd] at this
     exact this
    | false =>
     rw [if_neg (by decide)]
     have := key 200008 ((arcOf l0).code == 5) (by omega) (fun h => by rw [hd]; simpa using h)
     rw [hd] at this
     exact this
end Go.Proofs.YtpbpfngichfgeaaGreatDoor.PFed
