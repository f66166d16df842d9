/- The laws on words and on joined documents: the walks. -/
import Derived.Test.YtlgjhcaenmbekaaDoc7
import Derived.Test.YtlgjhcaenmbekaaDoc9
namespace Go.Proofs.Ytlgjhcaenmbekaa
open Go Go.RowKit Go.Adm

set_option maxHeartbeats 1000000 in
theorem walkWords (a s : ByteArray) (w : World) (ha : a.size ≤ 140737488355328) (hs : s.size ≤ 140737488355328) :
    Calls Try.prog 6 #[.string a, .string s] w fun e w' => e = .returned (.bool true) ∧ Below w.heap.size w w' := by
  by_cases h1 : 5000 < a.size
  · go_enter Try.func6, Try.ntmps6
    go_wp2
    go_ret
    exact ⟨rfl, Below.refl _ _⟩
  · by_cases h2 : 5000 < s.size
    · go_enter Try.func6, Try.ntmps6
      go_wp2
      go_ret
      exact ⟨rfl, Below.refl _ _⟩
    · go_enter Try.func6, Try.ntmps6
      go_wp2_with fail
      refine (Unword_any _ _ (by omega)).mono ?_
      rintro e w1 ⟨rfl, hb1⟩
      go_wp2_with fail
      refine (refUnword_any _ _ (by omega)).mono ?_
      rintro e w2 ⟨rfl, hb2⟩
      have hb2' := hb1.trans (hb2.mono hb1.size)
      clear hb1 hb2
      go_wp2_with fail
      refine (awake_any _).mono ?_
      rintro e w3 ⟨rfl, hb3⟩
      have hb3' := hb2'.trans (hb3.mono hb2'.size)
      clear hb2' hb3
      go_wp2_with fail
      refine (Word_any _ _ (by omega)).mono ?_
      rintro e w4 ⟨rfl, hb4⟩
      have hb4' := hb3'.trans (hb4.mono hb3'.size)
      clear hb3' hb4
      go_wp2_with fail
      refine (refWord_any _ _ (by omega)).mono ?_
      rintro e w5 ⟨rfl, hb5⟩
      have hb5' := hb4'.trans (hb5.mono hb4'.size)
      clear hb4' hb5
      go_wp2
      go_ret
      exact ⟨rfl, hb5'⟩

set_option maxHeartbeats 1000000 in
theorem walkPlain (a : ByteArray) (w : World) (ha : a.size ≤ 140737488355328) :
    Calls Try.prog 7 #[.string a] w fun e w' => e = .returned (.bool true) ∧ Below w.heap.size w w' := by
  by_cases h1 : 5000 < a.size
  · go_enter Try.func7, Try.ntmps7
    go_wp2
    go_ret
    exact ⟨rfl, Below.refl _ _⟩
  · have hl1 := wordS_len (bs a)
    have hl2 := encW_len (bs a)
    rw [bs_len] at hl2
    have hr := wordS_range (bs a)
    have hu := unwordS_wordS (bs a)
    go_enter Try.func7, Try.ntmps7
    have Hr := Lib.hid hr
    have Hu := Lib.hid hu
    have hl3 : (wordS (bs a)).length ≤ 100000 := by omega
    have hl4 : 0 < (wordS (bs a)).length := by omega
    clear hr hu hl1 hl2
    go_wp2_with fail
    refine (Word_any _ _ (by omega)).mono ?_
    rintro e w1 ⟨rfl, hb1⟩
    generalize hS : (⟨(wordS (bs a)).toArray⟩ : ByteArray) = S
    have hbs : bs S = wordS (bs a) := by rw [← hS]
    have hsz : S.size = (wordS (bs a)).length := by rw [← bs_len, hbs]
    have hS1 : S.size ≤ 100000 := by omega
    have hS2 : 0 < S.size := by omega
    have HBS := Lib.hid hbs
    clear hS hbs hsz hl3 hl4
    go_wp2
    go_loop [4] (fun i => ∃ k : Nat, k ≤ S.size ∧ i = .int .i64 k) (fun i => S.size - (intOf i).toNat)
    case atStart => exact ⟨0, Nat.zero_le _, rfl⟩
    case round =>
      obtain ⟨k, hk, rfl⟩ := hrel
      by_cases hlt : k < S.size
      · have hr := Hr.out S[k] (by rw [← HBS.out]; exact List.getElem_mem (l := bs S) (n := k) (by simpa using hlt))
        obtain ⟨hr1, hr2⟩ := hr
        go_wp2
        go_round
        case rel => exact ⟨k + 1, by omega, by go_num⟩
        case measure => simp [intOf]; omega
      · have hem : S.toList.isEmpty = false := by rw [ByteArray.toList_eq]; simp; intro he; have : S.size = 0 := by rw [← bs_len, bs, he]; rfl
                                                  omega
        go_wp2_with fail
        refine (Unword_any _ _ (by omega)).mono ?_
        rintro e w2 ⟨rfl, hb2⟩
        have hb2' := hb1.trans (hb2.mono hb1.size)
        clear hb1 hb2
        rw [HBS.out, Hu.out]
        simp only [Option.getD_some, Option.isSome_some, mk_bs]
        go_wp2_with fail
        refine (awake_any _).mono ?_
        rintro e w3 ⟨rfl, hb3⟩
        have hb3' := hb2'.trans (hb3.mono hb2'.size)
        clear hb2' hb3
        go_wp2
        go_ret
        exact ⟨rfl, hb3'⟩
end Go.Proofs.Ytlgjhcaenmbekaa
