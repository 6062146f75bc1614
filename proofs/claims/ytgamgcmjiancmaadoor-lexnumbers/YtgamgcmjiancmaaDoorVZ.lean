/- A library: plain laws of strings and their bytes. No condition. -/
import Derived.Test.YtgamgcmjiancmaaDoorVY
import Derived.Laws.Strings
set_option linter.unusedSimpArgs false
set_option linter.unusedVariables false
namespace Go.Vabs
/-- What may be a byte. -/
def IsB (l : List Int) : Prop := ∀ c ∈ l, 0 ≤ c ∧ c ≤ 255
theorem IsB.drop {l : List Int} (h : IsB l) (n : Nat) : IsB (l.drop n) := fun c hc => h c (List.mem_of_mem_drop hc)
theorem IsB.take {l : List Int} (h : IsB l) (n : Nat) : IsB (l.take n) := fun c hc => h c (List.mem_of_mem_take hc)
theorem IsB.append {l m : List Int} (h : IsB l) (g : IsB m) : IsB (l ++ m) := fun c hc => (List.mem_append.1 hc).elim (h c) (g c)
theorem IsB.cut {l : List Int} (h : IsB l) (i j : Int) : IsB (cut l i j) := (h.drop _).take _
theorem IsB.nth {l : List Int} (h : IsB l) {i : Nat} {c : Int} (hc : l[i]? = some c) : 0 ≤ c ∧ c ≤ 255 := h c (List.mem_of_getElem? hc)
theorem bytesOf_isB (s : ByteArray) : IsB (bytesOf s) := by
  intro c hc
  unfold bytesOf at hc
  obtain ⟨b, _, rfl⟩ := List.mem_map.1 hc
  have := UInt8.toNat_lt b
  omega
theorem size_eq (s : ByteArray) : s.size = (bytesOf s).length := by
  rw [← bytesOf_len, lenN_eq]
theorem sizI_eq' (s : ByteArray) : sizI s = ((bytesOf s).length : Int) := by rw [sizI_eq, size_eq]
theorem inj_bytes : ∀ l m : List UInt8, (l.map fun b => (b.toNat : Int)) = (m.map fun b => (b.toNat : Int)) → l = m
  | [], [], _ => rfl
  | [], _ :: _, h => by cases h
  | _ :: _, [], h => by cases h
  | x :: l, y :: m, h => by
    rw [List.map_cons, List.map_cons] at h
    obtain ⟨h1, h2⟩ := List.cons.inj h
    rw [inj_bytes l m h2, show x = y from UInt8.toNat_inj.1 (by omega)]
theorem bytesOf_inj {a b : ByteArray} (h : bytesOf a = bytesOf b) : a = b := by
  have hd : a.data.toList = b.data.toList := by
    unfold bytesOf at h
    exact inj_bytes _ _ h
  cases a; cases b
  congr 1
  exact Array.toList_inj.1 hd
@[simp] theorem seq_iff {a b : ByteArray} : (seq a b = true) = (a = b) := by
  unfold seq
  rw [ByteArray.toList_eq, ByteArray.toList_eq]
  refine propext ⟨fun h => ?_, fun h => by subst h; simp⟩
  have : a.data.toList = b.data.toList := by simpa using h
  cases a; cases b
  congr 1
  exact Array.toList_inj.1 this
theorem bytesOf_append (a b : ByteArray) : bytesOf (a ++ b) = bytesOf a ++ bytesOf b := by
  unfold bytesOf
  rw [ByteArray.toList_data_append, List.map_append]
theorem bytesOf_mk (l : List UInt8) : bytesOf ⟨l.toArray⟩ = l.map fun b => (b.toNat : Int) := by
  unfold bytesOf
  simp
@[simp] theorem bytesOf_nil : bytesOf ⟨#[]⟩ = [] := rfl
@[simp] theorem bytesOf_empty : bytesOf ByteArray.empty = [] := rfl
theorem foldl_push (l : List Int) (r : ByteArray) : bytesOf (l.foldl (fun r n => r.push (UInt8.ofNat n.toNat)) r) = bytesOf r ++ l.map fun n => ((UInt8.ofNat n.toNat).toNat : Int) := by
  induction l generalizing r with
  | nil => simp
  | cons x l ih =>
    rw [List.foldl_cons, ih, List.map_cons]
    unfold bytesOf
    rw [ByteArray.data_push]
    simp
theorem bytesOf_strOf {l : List Int} (h : IsB l) : bytesOf (strOf l) = l := by
  unfold strOf
  rw [foldl_push, bytesOf_empty, List.nil_append]
  have : ∀ l : List Int, IsB l → (l.map fun n => ((UInt8.ofNat n.toNat).toNat : Int)) = l := by
    intro l
    induction l with
    | nil => intro _; rfl
    | cons x l ih =>
      intro h
      have hx := h x List.mem_cons_self
      rw [List.map_cons, ih (fun c hc => h c (List.mem_cons_of_mem _ hc))]
      congr 1
      rw [UInt8.toNat_ofNat']
      omega
  exact this l h
theorem strOf_bytesOf (s : ByteArray) : strOf (bytesOf s) = s := bytesOf_inj (bytesOf_strOf (bytesOf_isB s))
theorem strOf_inj {l m : List Int} (hl : IsB l) (hm : IsB m) (h : strOf l = strOf m) : l = m := by
  rw [← bytesOf_strOf hl, ← bytesOf_strOf hm, h]
theorem strOf_append {l m : List Int} (hl : IsB l) (hm : IsB m) : strOf l ++ strOf m = strOf (l ++ m) := by
  apply bytesOf_inj
  rw [bytesOf_append, bytesOf_strOf hl, bytesOf_strOf hm, bytesOf_strOf (hl.append hm)]
theorem strOf_size {l : List Int} (hl : IsB l) : (strOf l).size = l.length := by rw [size_eq, bytesOf_strOf hl]
theorem bytesOf_cutB (s : ByteArray) (a b : Int) : bytesOf (cutB s a b) = ((bytesOf s).take b.toNat).drop a.toNat := by
  unfold cutB bytesOf
  rw [ByteArray.data_extract, Array.toList_extract, List.extract_eq_take_drop, List.map_take, List.map_drop, List.drop_take]
theorem cutB_all (s : ByteArray) {a : Int} : bytesOf (cutB s a (sizI s)) = (bytesOf s).drop a.toNat := by
  rw [bytesOf_cutB, sizI_eq', List.take_of_length_le (by omega)]
theorem cut_take {α : Type} (l : List α) {a b : Int} (h0 : 0 ≤ a) : cut l a b = (l.take b.toNat).drop a.toNat := by
  unfold cut
  rw [List.drop_take]
theorem cut_zero {α : Type} (l : List α) (b : Int) : cut l 0 b = l.take b.toNat := by
  rw [cut_take l (Int.le_refl 0)]
  rfl
theorem cut_drop {α : Type} {b : List α} {at_ : Int} (h0 : 0 ≤ at_) (h1 : at_ ≤ b.length) : cut b at_ (lenI b) = b.drop at_.toNat := by
  unfold cut
  rw [lenI_eq]
  refine List.take_of_length_le ?_
  rw [List.length_drop]
  omega
theorem getB_eq (s : ByteArray) (i : Int) : getB s i = getI (bytesOf s) i := by
  unfold getB getI bytesOf
  split
  · rw [List.getElem?_map]
    have : s[i.toNat]? = s.data.toList[i.toNat]? := by
      by_cases h : i.toNat < s.size
      · rw [getElem?_pos s i.toNat h, List.getElem?_eq_getElem (by simpa using h)]
        rfl
      · rw [getElem?_neg s i.toNat h, List.getElem?_eq_none (by simpa using h)]
    rw [this]
  · rfl
theorem addOk_iff {a b : ByteArray} : (addOk a b = true) = ((bytesOf a).length + (bytesOf b).length ≤ 9223372036854775807) := by
  rw [← size_eq, ← size_eq]
  simp [addOk]
theorem cutOk_iff {n : Nat} {lo hi : Int} : (cutOk n lo hi = true) = (0 ≤ lo ∧ lo ≤ hi ∧ hi ≤ n) := by simp [cutOk]
end Go.Vabs
