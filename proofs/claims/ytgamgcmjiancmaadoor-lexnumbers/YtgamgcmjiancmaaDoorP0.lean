/- Plain laws: what is shown is true. No condition. -/
import Derived.Test.YtgamgcmjiancmaaDoorVY
import Derived.Test.YtgamgcmjiancmaaDoorG
import Derived.Test.YtgamgcmjiancmaaDoorR
import Derived.KernelRfl
set_option linter.unusedSimpArgs false
set_option linter.unusedVariables false
set_option maxRecDepth 20000
namespace Go.Vid
open Go.Vabs
theorem iconv_i32 {a : Int} (h0 : -2147483648 ≤ a) (h1 : a ≤ 2147483647) : iconv .i32 a = a := by
  unfold iconv IntKind.wrap
  simp [IntKind.signed, IntKind.bits, IntKind.max]
  omega
theorem iconv_u8 {a : Int} (h0 : 0 ≤ a) (h1 : a ≤ 255) : iconv .u8 a = a := by
  unfold iconv IntKind.wrap
  simp [IntKind.signed, IntKind.bits]
  omega
theorem decode_one {c : Int} {l : List Int} (h0 : 0 ≤ c) (h1 : c < 128) : unicode_utf8_DecodeRune (c :: l) = some (c, 1) := by
  unfold unicode_utf8_DecodeRune
  have hb : unicode_utf8_DecodeRune_B0 (c :: l) () = some (.inr (.inl c)) := by
    simp only [unicode_utf8_DecodeRune_B0]
    rw [if_pos (by rw [ilt_iff, lenI_eq, List.length_cons]; omega), show getI (c :: l) 0 = some c from rfl, Option.bind_some, if_pos (by rw [ilt_iff]; exact h1), iconv_i32 (by omega) (by omega)]
  rw [loopF_inr hb]
  rfl
theorem figs_no {s : List Int} {i c : Int} (hi : cutOk (lenN s) i (lenI s) = true) (hl : ilt i (lenI s) = true) (hc : ∃ l, cut s i (lenI s) = c :: l) (h0 : 0 ≤ c) (h1 : c < 128) (h2 : lex_run_1_figs c = some false) : bytes_indexFunc_figs_B0 s i = some (.inl (iadd .i64 i 1)) := by
  obtain ⟨l, hl2⟩ := hc
  simp only [bytes_indexFunc_figs_B0]
  rw [if_pos hl, if_pos hi, hl2, decode_one h0 h1, Option.bind_some]
  simp only
  rw [h2]
  rfl
theorem figs_yes {s : List Int} {i c : Int} (hi : cutOk (lenN s) i (lenI s) = true) (hl : ilt i (lenI s) = true) (hc : ∃ l, cut s i (lenI s) = c :: l) (h0 : 0 ≤ c) (h1 : c < 128) (h2 : lex_run_1_figs c = some true) : bytes_indexFunc_figs_B0 s i = some (.inr (.inl i)) := by
  obtain ⟨l, hl2⟩ := hc
  simp only [bytes_indexFunc_figs_B0]
  rw [if_pos hl, if_pos hi, hl2, decode_one h0 h1, Option.bind_some]
  simp only
  rw [h2]
  rfl
theorem ones_no {s : List Int} {i c : Int} (hi : cutOk (lenN s) i (lenI s) = true) (hl : ilt i (lenI s) = true) (hc : ∃ l, cut s i (lenI s) = c :: l) (h0 : 0 ≤ c) (h1 : c < 128) (h2 : lex_run_1_ones c = some false) : bytes_indexFunc_ones_B0 s i = some (.inl (iadd .i64 i 1)) := by
  obtain ⟨l, hl2⟩ := hc
  simp only [bytes_indexFunc_ones_B0]
  rw [if_pos hl, if_pos hi, hl2, decode_one h0 h1, Option.bind_some]
  simp only
  rw [h2]
  rfl
theorem ones_yes {s : List Int} {i c : Int} (hi : cutOk (lenN s) i (lenI s) = true) (hl : ilt i (lenI s) = true) (hc : ∃ l, cut s i (lenI s) = c :: l) (h0 : 0 ≤ c) (h1 : c < 128) (h2 : lex_run_1_ones c = some true) : bytes_indexFunc_ones_B0 s i = some (.inr (.inl i)) := by
  obtain ⟨l, hl2⟩ := hc
  simp only [bytes_indexFunc_ones_B0]
  rw [if_pos hl, if_pos hi, hl2, decode_one h0 h1, Option.bind_some]
  simp only
  rw [h2]
  rfl
theorem figs1 : lex_run_figs [52, 50, 57] 0 = some 3 := by
  have h : bytes_indexFunc_figs (cut [52, 50, 57] 0 (lenI (α := Int) [52, 50, 57])) = some (-1) := by
    unfold bytes_indexFunc_figs
    rw [loopF_inl (j := 1) (figs_no (c := 52) rfl rfl ⟨_, rfl⟩ (by decide) (by decide) (by kernel_rfl)), loopF_inl (j := 2) (figs_no (c := 50) rfl rfl ⟨_, rfl⟩ (by decide) (by decide) (by kernel_rfl)),
      loopF_inl (j := 3) (figs_no (c := 57) rfl rfl ⟨_, rfl⟩ (by decide) (by decide) (by kernel_rfl)), loopF_inr (r := .inr ()) rfl]
    rfl
  unfold lex_run_figs bytes_IndexFunc_figs
  rw [if_pos (by decide), h]
  rfl
theorem shown1 : lex_Number [52, 50, 57] 0 1000 = some (429, 3, 0) := by
  unfold lex_Number
  rw [show lex_isPlace [52, 50, 57] 0 = some true from rfl, Option.bind_some, if_pos (by decide), figs1, Option.bind_some, if_neg (by decide), show getI ([52, 50, 57] : List Int) 0 = some 52 from rfl, Option.bind_some, if_neg (by decide), if_pos (by decide),
    loopF_inl (j := (4, 1)) (by kernel_rfl), loopF_inl (j := (42, 2)) (by kernel_rfl), loopF_inl (j := (429, 3)) (by kernel_rfl), loopF_inr (r := .inr 429) (by kernel_rfl)]
  rfl
theorem figs2 : lex_run_figs [120, 45, 55, 32] 2 = some 3 := by
  have h : bytes_indexFunc_figs (cut [120, 45, 55, 32] 2 (lenI (α := Int) [120, 45, 55, 32])) = some 1 := by
    unfold bytes_indexFunc_figs
    rw [show cut [120, 45, 55, 32] 2 (lenI (α := Int) [120, 45, 55, 32]) = ([55, 32] : List Int) from rfl, loopF_inl (j := 1) (figs_no (c := 55) rfl rfl ⟨_, rfl⟩ (by decide) (by decide) (by kernel_rfl)), loopF_inr (figs_yes (c := 32) rfl rfl ⟨_, rfl⟩ (by decide) (by decide) (by kernel_rfl))]
    rfl
  unfold lex_run_figs bytes_IndexFunc_figs
  rw [if_pos (by decide), h]
  rfl
theorem shown2n : lex_Number [120, 45, 55, 32] 2 9 = some (7, 3, 0) := by
  unfold lex_Number
  rw [show lex_isPlace [120, 45, 55, 32] 2 = some true from rfl, Option.bind_some, if_pos (by decide), figs2, Option.bind_some, if_neg (by decide), show getI ([120, 45, 55, 32] : List Int) 2 = some 55 from rfl, Option.bind_some, if_neg (by decide), if_pos (by decide),
    loopF_inl (j := (7, 1)) (by kernel_rfl), loopF_inr (r := .inr 7) (by kernel_rfl)]
  rfl
theorem shown2 : lex_Signed [120, 45, 55, 32] 1 9 = some (-7, 3, 0) := by
  unfold lex_Signed
  rw [show lex_isPlace [120, 45, 55, 32] 1 = some true from rfl, Option.bind_some, if_pos (by decide), show lex_Is [120, 45, 55, 32] 1 { data := #[45] } = some (2, true) by kernel_rfl, Option.bind_some]
  simp only
  rw [shown2n]
  rfl
theorem ones1 : lex_run_ones [48, 49, 49, 50] 0 = some 3 := by
  have h : bytes_indexFunc_ones (cut [48, 49, 49, 50] 0 (lenI (α := Int) [48, 49, 49, 50])) = some 3 := by
    unfold bytes_indexFunc_ones
    rw [show cut [48, 49, 49, 50] 0 (lenI (α := Int) [48, 49, 49, 50]) = ([48, 49, 49, 50] : List Int) from rfl, loopF_inl (j := 1) (ones_no (c := 48) rfl rfl ⟨_, rfl⟩ (by decide) (by decide) (by kernel_rfl)), loopF_inl (j := 2) (ones_no (c := 49) rfl rfl ⟨_, rfl⟩ (by decide) (by decide) (by kernel_rfl)),
      loopF_inl (j := 3) (ones_no (c := 49) rfl rfl ⟨_, rfl⟩ (by decide) (by decide) (by kernel_rfl)), loopF_inr (ones_yes (c := 50) rfl rfl ⟨_, rfl⟩ (by decide) (by decide) (by kernel_rfl))]
    rfl
  unfold lex_run_ones bytes_IndexFunc_ones
  rw [if_pos (by decide), h]
  rfl
theorem shown3 : lex_Ones [48, 49, 49, 50] 0 9 = some ({ data := #[48, 49, 49] }, 3, 0) := by
  unfold lex_Ones
  rw [show lex_isPlace [48, 49, 49, 50] 0 = some true from rfl, Option.bind_some, if_pos (by decide), ones1]
  kernel_rfl
theorem shown4 : lex_Put 300 = some [172, 2] := by
  unfold lex_Put
  rw [if_neg (by decide), if_neg (by decide), loopF_inl (j := ([172], 2)) (by kernel_rfl), loopF_inr (r := ([172], 2)) (by kernel_rfl)]
  kernel_rfl
theorem shown5 : lex_Take [172, 2] 0 = some (300, 2, 0) := by
  unfold lex_Take
  rw [show lex_isPlace [172, 2] 0 = some true from rfl, Option.bind_some, if_pos (by decide), if_pos (by decide), loopF_inl (j := (44, 1)) (by kernel_rfl), loopF_inr (r := .inl (300, 2, 0)) (by kernel_rfl)]
  rfl
theorem name1 : lex_IsName { data := #[97, 32, 98] } = some true := by
  unfold lex_IsName
  rw [loopF_inl (j := (1, 1)) (by kernel_rfl), loopF_inl (j := (2, 2)) (by kernel_rfl), loopF_inl (j := (3, 3)) (by kernel_rfl), loopF_inr (r := .inr 3) (by kernel_rfl)]
  rfl
theorem name2 : lex_IsName { data := #[97] } = some true := by
  unfold lex_IsName
  rw [loopF_inl (j := (1, 1)) (by kernel_rfl), loopF_inr (r := .inr 1) (by kernel_rfl)]
  rfl
theorem shown6 : lex_Name [97, 32, 98, 10] 0 = some ({ data := #[97, 32, 98] }, 3, 0) := by
  unfold lex_Name
  rw [show lex_isPlace [97, 32, 98, 10] 0 = some true from rfl, Option.bind_some, if_pos (by decide), if_pos (by decide), show strings_Cut_nl (strOf (cut [97, 32, 98, 10] 0 (lenI (α := Int) [97, 32, 98, 10]))) = some ({ data := #[97, 32, 98] }, { data := #[] }, true) by kernel_rfl, Option.bind_some]
  simp only
  rw [name1]
  rfl
theorem shown7 : lex_Is [97, 97, 103, 32, 49] 0 { data := #[97, 97, 103, 32] } = some (4, true) := by kernel_rfl
/-- What is shown is so. -/
theorem shown_eq : law01_shown = some true := by
  unfold law01_shown
  simp only [shown1, shown2, shown3, shown4, shown5, shown6, shown7, name2, Option.bind_some]
  kernel_rfl
end Go.Vid
