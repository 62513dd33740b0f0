/- Utf8Cut: bytes that are cut anywhere are, decoded and encoded part by part, what they were: for all choices and every place. No conditions. -/
import Derived.Test.YtopkhidncfcjlaaDoorPureUtfK
import Derived.Test.YtopkhidncfcjlaaDoorPX2
namespace Go.Proofs.YtopkhidncfcjlaaDoor.Pure
open Go.RowKit Go.Proofs.YtopkhidncfcjlaaDoor.PX Go.Proofs.YtopkhidncfcjlaaDoorW.PrintWords Go.Proofs.YtopkhidncfcjlaaDoorW.PrintLast Go.Proofs.YtopkhidncfcjlaaDoor.Utf

theorem Utf8Cut : redactorlaw02_Utf8Cut.Pure := by
  intro c a hm hs hc ha
  obtain ⟨a0, a1⟩ := wf_u8 ha
  obtain ⟨b, hb, hl, h⟩ := bytes_f c (wf_bytes hc) (by omega)
  refine ⟨400, ?_⟩
  unfold redactorlaw02_Utf8Cut.f
  rw [h 400 (by omega), Option.bind_some, w64 (i := (b.length : Int) + 1) (by omega) (by omega), w64 (i := a) (by omega) (by omega), Int.tmod_eq_emod_of_nonneg a0]
  have hp : 0 ≤ a % ((b.length : Int) + 1) := Int.emod_nonneg _ (by omega)
  have hq : a % ((b.length : Int) + 1) < (b.length : Int) + 1 := Int.emod_lt_of_pos _ (by omega)
  obtain ⟨n, hn⟩ : ∃ n : Nat, a % ((b.length : Int) + 1) = (n : Int) := ⟨(a % ((b.length : Int) + 1)).toNat, by omega⟩
  rw [hn] at hp hq ⊢
  have e1 : ((n : Int)).toNat = n := by omega
  have l1 : (b.take n).length ≤ 60 := by rw [List.length_take]; omega
  have l2 : (b.drop n).length ≤ 60 := by rw [List.length_drop]; omega
  have b1 := hb.take n
  have b2 := hb.drop n
  have m1 := decode_len b1
  have m2 := decode_len b2
  rw [if_neg (by omega), if_pos hp, if_pos (by omega), e1, decode_f 400 _ b1 (by omega) (by omega), decode_f 400 _ b2 (by omega) (by omega), known_f 400 (by omega)]
  simp only [Option.bind_some]
  rw [encode_right 400 _ (by omega) (by omega) (decode_right b1), encode_right 400 _ (by omega) (by omega) (decode_right b2), enc_decode b1, enc_decode b2]
  simp only [Option.bind_some]
  rw [if_pos trivial, if_pos trivial, if_pos trivial, if_pos (by rw [strOfNums_size, strOfNums_size]; omega)]
  have e : strOfNums (b.take n) ++ strOfNums (b.drop n) = strOfNums b := by
    apply ByteArray.ext
    apply Array.toList_inj.1
    show ((strOfNums (b.take n)) ++ (strOfNums (b.drop n))).data.toList = _
    rw [ByteArray.data_append, Array.toList_append, strOfNums_data, strOfNums_data, strOfNums_data, ← List.map_append, List.take_append_drop]
  rw [e]
  simp
end Go.Proofs.YtopkhidncfcjlaaDoor.Pure
