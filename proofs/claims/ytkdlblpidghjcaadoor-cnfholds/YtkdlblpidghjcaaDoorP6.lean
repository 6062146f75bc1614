/- Plain laws: what is printed is read, and what is read is what is printed. No condition. -/
import Derived.Test.YtkdlblpidghjcaaDoorP4
import Derived.Test.YtkdlblpidghjcaaDoorR
set_option linter.unusedSimpArgs false
set_option linter.unusedVariables false
set_option maxRecDepth 20000
namespace Go.Vid
open Go.Vabs
theorem fig_dig : ∀ (n : Nat), ∀ c ∈ fig n, dig c = true := by
 intro n
 induction n using Nat.strongRecOn with
 | _ n ih =>
  intro c hc
  by_cases h : n < 10
  ·rw [fig_small h, List.mem_singleton] at hc
   subst hc
   simp [dig]; omega
  ·rw [fig_big h, List.mem_append, List.mem_singleton] at hc
   rcases hc with hc | rfl
   ·exact ih _ (by omega) c hc
   ·simp [dig]; omega
theorem nv_append {lim : Int} : ∀ (A B : List Int) (x : Int), nv lim (A ++ B) x = (nv lim A x).bind (nv lim B)
 | [], B, x => by rw [List.nil_append, nv, Option.bind_some]
 | c :: A, B, x => by
  rw [List.cons_append, nv, nv]
  split
  ·rfl
  ·exact nv_append A B _
theorem nv_fig (lim : Int) : ∀ (n : Nat), nv lim (fig n) 0 = if lim < n then none else some (n : Int) := by
 intro n
 induction n using Nat.strongRecOn with
 | _ n ih =>
  by_cases h : n < 10
  ·rw [fig_small h, nv, nv]
   have : (0 : Int) * 10 + (48 + (n : Int) - 48) = n := by omega
   rw [this]
  ·rw [fig_big h, nv_append, ih _ (by omega)]
   by_cases h1 : lim < ((n / 10 : Nat) : Int)
   ·rw [if_pos h1, if_pos (by omega)]; rfl
   ·rw [if_neg h1, Option.bind_some, nv, nv]
    have : ((n / 10 : Nat) : Int) * 10 + (48 + ((n % 10 : Nat) : Int) - 48) = n := by omega
    rw [this]
theorem lead_append {p : Int → Bool} {B : List Int} : ∀ {A : List Int}, (∀ c ∈ A, p c = true) → lead p (A ++ B) = A.length + lead p B
 | [], _ => by simp
 | c :: A, h => by
  rw [List.cons_append, lead, if_pos (h c List.mem_cons_self), lead_append (fun c hc => h c (List.mem_cons_of_mem _ hc)), List.length_cons]
  omega
theorem num_fig (n : Nat) (b : List Int) (hb : lead dig b = 0) (most : Int) : numL (fig n ++ b) most = if min most 2147483647 < n then (0, 0, 3) else ((n : Int), (fig n).length, 0) := by
 have hp := fig_pos n
 have hlead : lead dig (fig n ++ b) = (fig n).length := by rw [lead_append (fig_dig n), hb, Nat.add_zero]
 have hh : ¬ ((fig n ++ b)[0]? = some 48 ∧ 1 < (fig n).length) := by
  rintro ⟨h1, h2⟩
  rw [List.getElem?_append_left (by omega)] at h1
  exact fig_head n (by have := fig_one.1 h2; omega) h1
 unfold numL
 rw [hlead, if_neg (by omega), if_neg hh, List.take_left, nv_fig]
 by_cases e : min most 2147483647 < (n : Int)
 ·rw [if_pos e, if_pos e]
 ·rw [if_neg e, if_neg e]
theorem numB_nat (n : Nat) : numB (n : Int) = fig n := by
 unfold numB
 rw [bytes_numeral, if_neg (by omega), Int.toNat_natCast]
theorem numB_neg {n : Int} (h : n < 0) : numB n = 45 :: fig n.natAbs := by
 unfold numB
 rw [bytes_numeral, if_pos h]
theorem drop_step {b X Y : List Int} {a : Nat} (h : b.drop a = X ++ Y) : b.drop (a + X.length) = Y := by rw [← List.drop_drop, h, List.drop_left]
theorem pre_app (X Y : List Int) : Pre X (X ++ Y) := by unfold Pre; exact List.take_left
theorem word_text {b s Y : List Int} {a : Nat} (h : b.drop a = s ++ Y) : wordS b s (a, 0) = (a + s.length, 0) := by
 unfold wordS
 simp only
 rw [if_pos trivial, h, if_pos (pre_app s Y)]
theorem num_text {b Y : List Int} {a n : Nat} {most : Int} (h : b.drop a = numB n ++ Y) (hY : lead dig Y = 0) (hm : (n : Int) ≤ most) (h2 : most ≤ 2147483647) : numS b most (a, 0) = ((n : Int), a + (numB n).length, 0) := by
 unfold numS
 simp only
 rw [if_pos trivial, h, numB_nat, num_fig n Y hY most, if_neg (by omega)]
theorem sgn_text {b Y : List Int} {a : Nat} {l most : Int} (h : b.drop a = numB l ++ Y) (hY : lead dig Y = 0) (h1 : -most ≤ l) (h2 : l ≤ most) (h3 : most ≤ 2147483647) : sgnS b most (a, 0) = (l, a + (numB l).length, 0) := by
 unfold sgnS
 simp only
 rw [if_pos trivial, h]
 by_cases hn : l < 0
 ·have e : signL (numB l ++ Y) most = (l, (numB l).length, 0) := by
   have hnf := num_fig l.natAbs Y hY most
   rw [if_neg (by omega)] at hnf
   rw [numB_neg hn]
   unfold signL
   rw [if_pos (show Pre [45] (45 :: fig l.natAbs ++ Y) from rfl), show (45 :: fig l.natAbs ++ Y).drop 1 = fig l.natAbs ++ Y from rfl, hnf]
   simp only
   rw [if_pos trivial, if_neg (by omega), List.length_cons]
   have : -((l.natAbs : Nat) : Int) = l := by omega
   rw [this, Nat.add_comm]
  rw [e]
 ·have hl : l = ((l.toNat : Nat) : Int) := by omega
  have e : signL (numB l ++ Y) most = (l, (numB l).length, 0) := by
   rw [hl, numB_nat]
   unfold signL
   have hp : ¬ Pre [45] (fig l.toNat ++ Y) := by
    intro hp
    have h0 := fig_pos l.toNat
    unfold Pre at hp
    have : (fig l.toNat ++ Y)[0]? = some 45 := by
     have := congrArg (·[0]?) hp
     simp only [List.getElem?_take] at this
     simpa using this
    rw [List.getElem?_append_left (by omega)] at this
    have := fig_dig l.toNat 45 (List.mem_of_getElem? this)
    simp [dig] at this
   rw [if_neg hp, num_fig _ Y hY most, if_neg (by omega)]
  rw [e]
theorem lead_lf (Y : List Int) : lead dig (10 :: Y) = 0 := rfl
theorem lead_sp (Y : List Int) : lead dig (32 :: Y) = 0 := rfl
theorem numB_zero : numB 0 = [48] := by rw [show (0 : Int) = ((0 : Nat) : Int) from rfl, numB_nat, fig_small (by decide)]; rfl
theorem cl_text {b : List Int} {most : Int} (hm : most ≤ 2147483647) : ∀ (c : List Int) (n : Nat) (acc : List Int) (a : Nat) (Y : List Int), (∀ l ∈ c, l ≠ 0 ∧ -most ≤ l ∧ l ≤ most) → 0 ≤ most → acc.length + c.length ≤ 1000 → c.length + 1 ≤ n → b.drop a = tcl c ++ Y →
  clS b most n acc (a, 0) = (acc ++ c, a + (tcl c).length, 0)
 | [], n, acc, a, Y, hc, h0, hl, hn, h => by
  obtain ⟨n, rfl⟩ : ∃ k, n = k + 1 := ⟨n - 1, by simp only [List.length_nil] at hn; omega⟩
  have h1 : b.drop a = numB 0 ++ (10 :: Y) := by rw [h, numB_zero]; rfl
  have hs := sgn_text h1 (lead_lf Y) (by omega) h0 hm
  have hd := drop_step h1
  rw [numB_zero] at hs hd
  rw [clS, if_pos rfl, hs]
  simp only
  rw [if_pos trivial, if_pos trivial, word_text (s := [10]) (Y := Y) hd]
  simp [tcl, cb]
 | l :: c, n, acc, a, Y, hc, h0, hl, hn, h => by
  rw [List.length_cons] at hl hn
  obtain ⟨n, rfl⟩ : ∃ k, n = k + 1 := ⟨n - 1, by omega⟩
  have hl0 := hc l List.mem_cons_self
  have h1 : b.drop a = numB l ++ (32 :: (tcl c ++ Y)) := by rw [h]; simp [tcl, cb, List.append_assoc]
  have hs := sgn_text h1 (lead_sp _) hl0.2.1 hl0.2.2 hm
  have hd := drop_step h1
  have hd2 := drop_step (X := [32]) hd
  rw [clS, if_pos rfl, hs]
  simp only
  rw [if_pos trivial, if_neg hl0.1, if_neg (by omega), word_text (s := [32]) (Y := tcl c ++ Y) hd]
  rw [cl_text hm c n (acc ++ [l]) _ Y (fun x hx => hc x (List.mem_cons_of_mem _ hx)) h0 (by rw [List.length_append, List.length_singleton]; omega) (by omega) hd2]
  simp [tcl, cb, List.append_assoc]
  omega
theorem tcl_ge (c : List Int) : c.length + 2 ≤ (tcl c).length := by
 unfold tcl
 rw [List.length_append]
 have : c.length ≤ (cb c).length := by
  induction c with
  | nil => exact Nat.zero_le _
  | cons l c ih =>
   have : (cb (l :: c)).length = (numB l ++ [32]).length + (cb c).length := by simp [cb]; omega
   rw [this, List.length_cons, List.length_append, List.length_singleton]
   omega
 simp only [List.length_cons, List.length_nil]
 omega
theorem drop_len {b X Y : List Int} {a : Nat} (h : b.drop a = X ++ Y) (hX : X ≠ []) : a + X.length ≤ b.length := by
 have := congrArg List.length h
 rw [List.length_drop, List.length_append] at this
 have := List.length_pos_iff.2 hX
 omega
theorem clQ_text {b Y c : List Int} {most : Int} {a : Nat} (hm : most ≤ 2147483647) (h0 : 0 ≤ most) (hc : ∀ l ∈ c, l ≠ 0 ∧ -most ≤ l ∧ l ≤ most) (hl : c.length ≤ 1000) (h : b.drop a = tcl c ++ Y) : clQ b most (a, 0) = (c, a + (tcl c).length, 0) := by
 have h1 := tcl_ge c
 have h2 := drop_len h (fun e => by rw [e, List.length_nil] at h1; omega)
 unfold clQ
 rw [cl_text hm c (b.length + 2) [] a Y hc h0 (by simpa using hl) (by omega) h, List.nil_append]
theorem par_text {b : List Int} {most : Int} (hm : most ≤ 2147483647) (h0 : 0 ≤ most) : ∀ (cs acc : List (List Int)) (a : Nat) (Y : List Int), (∀ c ∈ cs, c.length ≤ 1000 ∧ ∀ l ∈ c, l ≠ 0 ∧ -most ≤ l ∧ l ≤ most) → b.drop a = cs.flatMap tcl ++ Y →
  parS b most cs.length acc (a, 0) = (acc ++ cs, a + (cs.flatMap tcl).length, 0)
 | [], acc, a, Y, _, h => by simp [parS]
 | c :: cs, acc, a, Y, hc, h => by
  have hc0 := hc c List.mem_cons_self
  have h1 : b.drop a = tcl c ++ (cs.flatMap tcl ++ Y) := by rw [h, List.flatMap_cons, List.append_assoc]
  rw [List.length_cons, parS, clQ_text hm h0 hc0.2 hc0.1 h1]
  simp only
  rw [if_pos trivial, par_text hm h0 cs (acc ++ [c]) _ Y (fun d hd => hc d (List.mem_cons_of_mem _ hd)) (drop_step h1)]
  simp [List.append_assoc]
  omega
theorem parse_text {f : Cnf} (hr : rightT f = true) (Y : List Int) (hlen : (tx f ++ Y).length ≤ 100000) :
  parseT (tx f ++ Y) = if Y = [] then (f, ((tx f).length : Int), 0) else ({ N := 0, cs := [] }, ((tx f).length : Int), 2) := by
 obtain ⟨h1, h2, h3⟩ := right_parts hr
 obtain ⟨N, cs⟩ := f
 simp only at h1 h2 h3
 obtain ⟨n, rfl⟩ : ∃ n : Nat, N = (n : Int) := ⟨N.toNat, by omega⟩
 generalize hb : tx { N := (n : Int), cs := cs } ++ Y = b at hlen
 have hb0 : b.drop 0 = pcnf ++ (numB n ++ (32 :: (numB cs.length ++ (10 :: (cs.flatMap tcl ++ Y))))) := by
  rw [List.drop_zero, ← hb]
  simp [tx, tx0, pcnf, List.append_assoc]
 have d1 := drop_step hb0
 have d2 := drop_step d1
 have d3 := drop_step (X := [32]) d2
 have d4 := drop_step d3
 have d5 := drop_step (X := [10]) d4
 have e1 : hd1 b = ((n : Int), 0 + pcnf.length + (numB n).length, 0) := by
  unfold hd1
  rw [word_text hb0, num_text d1 (lead_sp _) h1.2 (by decide)]
 have e2 : hd2 b = ((cs.length : Int), 0 + pcnf.length + (numB n).length + [(32 : Int)].length + (numB cs.length).length, 0) := by
  unfold hd2
  rw [e1, word_text (s := [32]) d2, num_text d3 (lead_lf _) (by omega) (by decide)]
 have e3 : hd3 b = (0 + pcnf.length + (numB n).length + [(32 : Int)].length + (numB cs.length).length + [(10 : Int)].length, 0) := by
  unfold hd3
  rw [e2, word_text (s := [10]) d4]
 have hlt : 0 + pcnf.length + (numB n).length + [(32 : Int)].length + (numB cs.length).length + [(10 : Int)].length + (cs.flatMap tcl).length = (tx { N := (n : Int), cs := cs }).length := by
  simp [tx, tx0, pcnf]
  omega
 have e4 : body b = (cs, (tx { N := (n : Int), cs := cs }).length, 0) := by
  unfold body
  rw [e1, e2, e3]
  simp only
  rw [Int.toNat_natCast, par_text (by omega) (by omega) cs [] _ Y h3 d5, List.nil_append, hlt]
 have e5 : fin b = if Y = [] then ((tx { N := (n : Int), cs := cs }).length, 0) else ((tx { N := (n : Int), cs := cs }).length, 2) := by
  unfold fin endS
  rw [e4]
  simp only
  rw [if_pos trivial]
  have hl : b.length = (tx { N := (n : Int), cs := cs }).length + Y.length := by rw [← hb, List.length_append]
  by_cases hY : Y = []
  ·rw [if_pos hY, if_neg (by rw [hl, hY]; simp)]
  ·have := List.length_pos_iff.2 hY
   rw [if_neg hY, if_pos (by omega)]
 unfold parseT
 rw [if_neg (by omega), e1, e4, e5]
 by_cases hY : Y = []
 ·rw [if_pos hY, if_pos hY]; rfl
 ·rw [if_neg hY, if_neg hY]; rfl
theorem word_back {b s : List Int} {q : Nat × Int} (h : (wordS b s q).2 = 0) : q.2 = 0 ∧ (wordS b s q).1 = q.1 + s.length ∧ b.drop q.1 = s ++ b.drop (q.1 + s.length) := by
 unfold wordS at h ⊢
 by_cases h0 : q.2 = 0
 ·rw [if_pos h0] at h ⊢
  by_cases hp : Pre s (b.drop q.1)
  ·rw [if_pos hp] at h ⊢
   refine ⟨h0, rfl, ?_⟩
   rw [← List.drop_drop]
   unfold Pre at hp
   have := (List.take_append_drop s.length (b.drop q.1)).symm
   rw [hp] at this
   exact this
  ·rw [if_neg hp] at h
   cases h
 ·rw [if_neg h0] at h
  exact absurd h h0
end Go.Vid
set_option linter.unusedSimpArgs false
set_option linter.unusedVariables false
set_option maxRecDepth 20000
namespace Go.Vid
open Go.Vabs
def kw (k : Nat) : List Int := numB ((k + 1 : Nat) : Int) ++ [32]
def modS (b : List Int) : Nat → Nat → List Bool → Nat × Int → List Bool × Nat × Int
 | 0, _, ms, q => (ms, q)
 | n + 1, k, ms, q =>
  if q.2 = 0 then
   if Pre [45] (b.drop q.1) then modS b n (k + 1) (ms ++ [false]) (wordS b (kw k) (q.1 + 1, 0))
   else modS b n (k + 1) (ms ++ [true]) (wordS b (kw k) q)
  else (ms, q)
theorem modS_bad {b : List Int} {n k : Nat} {ms : List Bool} {q : Nat × Int} (h : q.2 ≠ 0) : modS b n k ms q = (ms, q) := by
 cases n with
 | zero => rfl
 | succ n => rw [modS, if_neg h]
theorem sign_le {b : List Int} {a : Nat} (h : Pre [45] (b.drop a)) : a + 1 ≤ b.length := by
 have := h.len
 rw [List.length_drop] at this
 simp only [List.length_cons, List.length_nil] at this
 omega
theorem modS_le {b : List Int} : ∀ (n k : Nat) (ms : List Bool) (q : Nat × Int), q.1 ≤ b.length → (modS b n k ms q).2.1 ≤ b.length
 | 0, k, ms, q, h => h
 | n + 1, k, ms, q, h => by
  rw [modS]
  split
  ·split
   ·rename_i hp
    exact modS_le n _ _ _ (wordS_le (sign_le hp))
   ·exact modS_le n _ _ _ (wordS_le h)
  ·exact h
theorem kw_bytes (k : Nat) : bytesOf (numeral ((k + 1 : Nat) : Int) ++ { data := #[32] }) = kw k := by rw [bytesOf_append]; rfl
section
variable {b : List Int} (hb : IsB b) (hl : b.length ≤ 1000000000)
include hb hl
theorem mod_loop (N : Nat) (hN : N ≤ 1000000) : ∀ (n k : Nat) (ms : List Bool) (q : Nat × Int), k + n = N → q.1 ≤ b.length → ms.length ≤ k →
  ∃ ms', loopF (cnf_ParseModel_B0 b (N : Int)) (ms, b, (q.1 : Int), q.2, (k : Int)) = some (ms', b, ((modS b n k ms q).2.1 : Int), (modS b n k ms q).2.2) ∧ ((modS b n k ms q).2.2 = 0 → ms' = (modS b n k ms q).1) := by
 intro n
 induction n with
 | zero =>
  intro k ms q hk hq hms
  refine ⟨ms, ?_, fun _ => rfl⟩
  rw [loopF_inr (r := (ms, b, (q.1 : Int), q.2))]
  ·rfl
  ·unfold cnf_ParseModel_B0
   simp only
   rw [if_neg (by rw [ilt_iff]; omega)]
 | succ n ih =>
  intro k ms q hk hq hms
  have hIt : I64 ((k + 1 : Nat) : Int) := ⟨by omega, by omega⟩
  have hadd : addOk (numeral ((k + 1 : Nat) : Int)) { data := #[32] } = true := addOk_of (num_le hIt) (by decide)
  have hcap : ∀ x : Bool, capN (lenN (ms ++ [x])) 1 = true := fun x => by rw [capN_iff, lenN_eq, List.length_append, List.length_singleton]; omega
  by_cases h0 : q.2 = 0
  ·by_cases hp : Pre [45] (b.drop q.1)
   ·have hw := word_eq hb hl (q := (q.1 + 1, 0)) (sign_le hp) (numeral ((k + 1 : Nat) : Int) ++ { data := #[32] })
    rw [kw_bytes] at hw
    unfold rd at hw
    have hstep : cnf_ParseModel_B0 b (N : Int) (ms, b, (q.1 : Int), q.2, (k : Int)) = if (wordS b (kw k) (q.1 + 1, 0)).2 = 0 then some (.inl (ms ++ [false], b, ((wordS b (kw k) (q.1 + 1, 0)).1 : Int), (wordS b (kw k) (q.1 + 1, 0)).2, ((k + 1 : Nat) : Int))) else some (.inr (ms ++ [false], b, ((wordS b (kw k) (q.1 + 1, 0)).1 : Int), (wordS b (kw k) (q.1 + 1, 0)).2)) := by
     unfold cnf_ParseModel_B0
     simp only
     rw [if_pos (by rw [ilt_iff]; omega), inc_ok (by omega), Itoa_eq hIt, Option.bind_some, Is_eq hb hl, if_pos (by omega), Int.toNat_natCast, show bytesOf { data := #[45] } = [45] from rfl, if_pos hp, Option.bind_some]
     simp only [ieq_iff]
     rw [if_pos h0, if_pos trivial, if_pos hadd, h0]
     simp only [List.length_cons, List.length_nil]
     rw [show ((q.1 : Int) + ((0 + 1 : Nat) : Int)) = ((q.1 + 1 : Nat) : Int) by omega, hw, Option.bind_some, if_pos (hcap false)]
    rw [modS, if_pos h0, if_pos hp]
    by_cases h1 : (wordS b (kw k) (q.1 + 1, 0)).2 = 0
    ·rw [if_pos h1] at hstep
     rw [loopF_inl hstep]
     exact ih (k + 1) _ _ (by omega) (wordS_le (sign_le hp)) (by rw [List.length_append, List.length_singleton]; omega)
    ·rw [if_neg h1] at hstep
     rw [loopF_inr hstep, modS_bad h1]
     exact ⟨_, rfl, fun h => absurd h h1⟩
   ·have hw := word_eq hb hl hq (numeral ((k + 1 : Nat) : Int) ++ { data := #[32] })
    rw [kw_bytes] at hw
    unfold rd at hw
    have hstep : cnf_ParseModel_B0 b (N : Int) (ms, b, (q.1 : Int), q.2, (k : Int)) = if (wordS b (kw k) q).2 = 0 then some (.inl (ms ++ [true], b, ((wordS b (kw k) q).1 : Int), (wordS b (kw k) q).2, ((k + 1 : Nat) : Int))) else some (.inr (ms ++ [true], b, ((wordS b (kw k) q).1 : Int), (wordS b (kw k) q).2)) := by
     unfold cnf_ParseModel_B0
     simp only
     rw [if_pos (by rw [ilt_iff]; omega), inc_ok (by omega), Itoa_eq hIt, Option.bind_some, Is_eq hb hl, if_pos (by omega), Int.toNat_natCast, show bytesOf { data := #[45] } = [45] from rfl, if_neg hp, Option.bind_some]
     simp only [ieq_iff]
     rw [if_pos h0, if_neg (by simp), if_pos hadd, hw, Option.bind_some, if_pos (hcap true)]
    rw [modS, if_pos h0, if_neg hp]
    by_cases h1 : (wordS b (kw k) q).2 = 0
    ·rw [if_pos h1] at hstep
     rw [loopF_inl hstep]
     exact ih (k + 1) _ _ (by omega) (wordS_le hq) (by rw [List.length_append, List.length_singleton]; omega)
    ·rw [if_neg h1] at hstep
     rw [loopF_inr hstep, modS_bad h1]
     exact ⟨_, rfl, fun h => absurd h h1⟩
  ·rw [modS_bad h0]
   have hw := word_eq hb hl hq (numeral ((k + 1 : Nat) : Int) ++ { data := #[32] })
   rw [kw_bytes, show wordS b (kw k) q = q by unfold wordS; rw [if_neg h0]] at hw
   unfold rd at hw
   have hIs : ∃ r : Int × Bool, lex_Is b (q.1 : Int) { data := #[45] } = some r := ⟨_, Is_eq hb hl _ _⟩
   obtain ⟨⟨r1, r2⟩, hr⟩ := hIs
   have hstep : cnf_ParseModel_B0 b (N : Int) (ms, b, (q.1 : Int), q.2, (k : Int)) = some (.inr (ms ++ [bnot r2], b, (q.1 : Int), q.2)) := by
    unfold cnf_ParseModel_B0
    simp only
    rw [if_pos (by rw [ilt_iff]; omega), inc_ok (by omega), Itoa_eq hIt, Option.bind_some, hr, Option.bind_some]
    simp only [ieq_iff]
    rw [if_neg h0, if_pos hadd, hw, Option.bind_some, if_pos (hcap _), if_neg h0]
   rw [loopF_inr hstep]
   exact ⟨_, rfl, fun h => absurd h h0⟩
end
def mbody (b : List Int) (n : Nat) : List Bool × Nat × Int := modS b n 0 [] (wordS b [118, 32] (0, 0))
def mfin (b : List Int) (n : Nat) : Nat × Int := endS b (wordS b [48, 10] (mbody b n).2)
def parseM (b : List Int) (n : Nat) : List Bool × Int × Int := if (mfin b n).2 = 0 then ((mbody b n).1, ((mfin b n).1 : Int), 0) else ([], ((mfin b n).1 : Int), (mfin b n).2)
theorem mbody_le (b : List Int) (n : Nat) : (mbody b n).2.1 ≤ b.length := modS_le _ _ _ _ (wordS_le (Nat.zero_le _))
theorem mfin_zero {b : List Int} {n : Nat} (h : (mfin b n).2 = 0) : (mbody b n).2.2 = 0 := by
 unfold mfin endS at h
 have : (wordS b [48, 10] (mbody b n).2).2 = 0 := by
  split at h
  ·assumption
  ·exact h
 exact (word_back this).1
theorem ParseModel_eq {b : List Int} (hb : IsB b) (hl : b.length ≤ 1000000000) {n : Nat} (hn : n ≤ 1000000) : cnf_ParseModel b n = some (parseM b n) := by
 unfold cnf_ParseModel
 have e1 := word_eq hb hl (q := (0, 0)) (Nat.zero_le _) { data := #[118, 32] }
 rw [show bytesOf { data := #[118, 32] } = [118, 32] from rfl] at e1
 obtain ⟨ms', h1, h2⟩ := mod_loop hb hl n hn n 0 [] (wordS b [118, 32] (0, 0)) (by omega) (wordS_le (Nat.zero_le _)) (by simp)
 have e2 := word_eq hb hl (q := (mbody b n).2) (mbody_le b n) { data := #[48, 10] }
 have e3 := end_eq (q := wordS b [48, 10] (mbody b n).2) (wordS_le (mbody_le b n))
 rw [show ({ b := b, at' := 0, e := 0 } : Reader_cnf) = rd b (0, 0) from rfl, e1, Option.bind_some]
 unfold rd
 simp only
 have h1' : loopF (cnf_ParseModel_B0 b (n : Int)) ([], b, ((wordS b [118, 32] (0, 0)).1 : Int), (wordS b [118, 32] (0, 0)).2, 0) = _ := h1
 rw [h1', Option.bind_some]
 simp only
 unfold rd at e2 e3
 rw [show modS b n 0 [] (wordS b [118, 32] (0, 0)) = mbody b n from rfl, e2, Option.bind_some, show bytesOf { data := #[48, 10] } = [48, 10] from rfl, e3, Option.bind_some]
 simp only [ieq_iff]
 unfold parseM
 rw [show endS b (wordS b [48, 10] (mbody b n).2) = mfin b n from rfl]
 by_cases h0 : (mfin b n).2 = 0
 ·rw [if_pos h0, if_pos h0, h2 (mfin_zero h0)]
  rfl
 ·rw [if_neg h0, if_neg h0]
theorem pre_num {n : Nat} {Y : List Int} : ¬ Pre [45] (numB (n : Int) ++ Y) := by
 intro hp
 have h0 := fig_pos n
 rw [numB_nat] at hp
 unfold Pre at hp
 have : (fig n ++ Y)[0]? = some 45 := by
  have := congrArg (·[0]?) hp
  simp only [List.getElem?_take] at this
  simpa using this
 rw [List.getElem?_append_left (by omega)] at this
 have := fig_dig n 45 (List.mem_of_getElem? this)
 simp [dig] at this
theorem mod_text {b : List Int} : ∀ (m : List Bool) (k : Nat) (ms : List Bool) (a : Nat) (Y : List Int), b.drop a = cb (modL k m) ++ Y → modS b m.length k ms (a, 0) = (ms ++ m, a + (cb (modL k m)).length, 0)
 | [], k, ms, a, Y, h => by simp [modS, modL, cb]
 | x :: m, k, ms, a, Y, h => by
  rw [List.length_cons, modS, if_pos rfl]
  cases x with
  | true =>
   have h1 : b.drop a = kw k ++ (cb (modL (k + 1) m) ++ Y) := by rw [h]; simp [modL, cb, kw, List.append_assoc]
   have hp : ¬ Pre [45] (b.drop a) := by rw [h1]; unfold kw; rw [List.append_assoc]; exact pre_num
   rw [if_neg hp, word_text h1, mod_text m (k + 1) _ _ Y (drop_step h1)]
   simp [modL, cb, kw]
   omega
  | false =>
   have h1 : b.drop a = [45] ++ (kw k ++ (cb (modL (k + 1) m) ++ Y)) := by
    have hn : numB (-((k + 1 : Nat) : Int)) = 45 :: numB ((k + 1 : Nat) : Int) := by
     rw [numB_neg (by omega), numB_nat]
     congr 2
    rw [h]
    simp only [modL, cb, List.flatMap_cons, Bool.false_eq_true, if_false, hn, kw]
    simp [List.append_assoc]
   have hp : Pre [45] (b.drop a) := by rw [h1]; exact pre_app _ _
   have h2 := drop_step h1
   have hn : numB (-((k + 1 : Nat) : Int)) = 45 :: numB ((k + 1 : Nat) : Int) := by
    rw [numB_neg (by omega), numB_nat]
    congr 2
   rw [if_pos hp, word_text (a := a + 1) h2, mod_text m (k + 1) _ _ Y (drop_step (a := a + 1) h2)]
   simp only [modL, cb, List.flatMap_cons, Bool.false_eq_true, if_false, hn, kw]
   simp
   omega
theorem model_text (m : List Bool) : parseM (txm m) m.length = (m, ((txm m).length : Int), 0) := by
 have h0 : (txm m).drop 0 = [118, 32] ++ (cb (modL 0 m) ++ [48, 10]) := by rw [List.drop_zero]; simp [txm, List.append_assoc]
 have d1 := drop_step h0
 have d2 : (txm m).drop (0 + [(118 : Int), 32].length + (cb (modL 0 m)).length) = [48, 10] ++ [] := drop_step d1
 have e1 : mbody (txm m) m.length = (m, 0 + [(118 : Int), 32].length + (cb (modL 0 m)).length, 0) := by
  unfold mbody
  rw [word_text h0, mod_text m 0 [] _ _ d1, List.nil_append]
 have hlen : 0 + [(118 : Int), 32].length + (cb (modL 0 m)).length + [(48 : Int), 10].length = (txm m).length := by
  simp [txm]
  omega
 have e2 : mfin (txm m) m.length = ((txm m).length, 0) := by
  unfold mfin endS
  rw [e1, word_text d2, hlen]
  simp only
  rw [if_pos trivial, if_neg (by omega)]
 unfold parseM
 rw [e1, e2]
 rfl
theorem shown_eq : law03_shown = some true := by
 have n1 : numB 1 = [49] := by rw [show (1 : Int) = ((1 : Nat) : Int) from rfl, numB_nat, fig_small (by decide)]; rfl
 have n2 : numB 2 = [50] := by rw [show (2 : Int) = ((2 : Nat) : Int) from rfl, numB_nat, fig_small (by decide)]; rfl
 have m1 : numB (-1) = [45, 49] := by rw [numB_neg (by decide), show (-1 : Int).natAbs = 1 from rfl, fig_small (by decide)]; rfl
 have m2 : numB (-2) = [45, 50] := by rw [numB_neg (by decide), show (-2 : Int).natAbs = 2 from rfl, fig_small (by decide)]; rfl
 have hr : rightT { N := 2, cs := [[1, -2]] } = true := by decide
 have ht : tx { N := 2, cs := [[1, -2]] } = [112, 32, 99, 110, 102, 32, 50, 32, 49, 10, 49, 32, 45, 50, 32, 48, 10] := by
  simp [tx, tx0, tcl, cb, n1, n2, m2]
 have htm : txm [false, false] = [118, 32, 45, 49, 32, 45, 50, 32, 48, 10] := by
  simp [txm, modL, cb, m1, m2]
 have hP := Print_eq { N := 2, cs := [[1, -2]] }
 rw [if_pos hr] at hP
 have hR : cnf_Parse (tx { N := 2, cs := [[1, -2]] }) = some ({ N := 2, cs := [[1, -2]] }, 17, 0) := by
  rw [Parse_eq (tx_isB _) (Nat.le_trans (tx_len hr) (by decide))]
  have := parse_text hr [] (by rw [List.append_nil, ht]; decide)
  rw [List.append_nil, if_pos rfl] at this
  rw [this, ht]
  rfl
 have hM : cnf_ParseModel [118, 32, 45, 49, 32, 45, 50, 32, 48, 10] 2 = some ([false, false], 10, 0) := by
  have h1 := ParseModel_eq (n := 2) (txm_isB [false, false]) (by rw [htm]; decide) (by decide)
  rw [show (2 : Nat) = [false, false].length from rfl, model_text, htm] at h1
  exact h1
 have hFL : FL { N := 2, cs := [[1, -2]] } := ⟨by decide, by decide⟩
 have hFI : FI { N := 2, cs := [[1, -2]] } := ⟨by decide, fun c hc => by
  rw [List.mem_singleton] at hc
  subst hc
  exact ⟨by decide, fun l hl => by
   simp at hl
   rcases hl with rfl | rfl <;> exact ⟨by decide, by decide⟩⟩⟩
 unfold law03_shown
 rw [hP, Option.bind_some]
 simp only
 rw [bytesOf_strOf (tx_isB _), hR, Option.bind_some]
 simp only
 rw [hM, Option.bind_some]
 simp only [ieq_iff, seq_iff]
 rw [if_pos trivial, if_pos (bytesOf_inj (by rw [bytesOf_strOf (tx_isB _), ht]; rfl)), if_pos trivial, if_pos trivial, Same_eq _ hFL, Option.bind_some, if_pos (by decide), if_pos trivial, if_pos trivial, if_pos (by decide), Holds_eq hFI (by decide), Option.bind_some, if_pos (by decide), if_pos (by decide), Clause_eq (hFI.2 _ List.mem_cons_self).2 (by decide) (by decide), Option.bind_some, if_pos (by decide), PrintModel_eq (by decide), Option.bind_some, if_pos (bytesOf_inj (by rw [bytesOf_strOf (txm_isB _), htm]; rfl)), Right_eq, hr]
 rfl
end Go.Vid
set_option linter.unusedSimpArgs false
set_option linter.unusedVariables false
set_option maxRecDepth 20000
namespace Go.Vid
open Go.Vabs
theorem FI_of {f : Cnf} (h : Cnf.Wf f) : FI f := by
 have h1 := h.2.1.1
 rw [reach_eq] at h1
 refine ⟨by omega, fun c hc => ?_⟩
 have h2 := h.2.1.2 c hc
 have h3 := h2.1
 rw [reach_eq] at h3
 exact ⟨by omega, fun l hl => (h2.2 l hl).i64⟩
theorem IsB_of {b : List Int} (h : FitsL 1 (Fits .u8) b) : IsB b := fun c hc => (h.2 c hc).u8
theorem modS_len {b : List Int} : ∀ (n k : Nat) (ms : List Bool) (q : Nat × Int), (modS b n k ms q).1.length ≤ ms.length + n
 | 0, k, ms, q => Nat.le_refl _
 | n + 1, k, ms, q => by
  rw [modS]
  split
  ·split
   ·have := modS_len (b := b) n (k + 1) (ms ++ [false]) (wordS b (kw k) (q.1 + 1, 0))
    rw [List.length_append, List.length_singleton] at this
    omega
   ·have := modS_len (b := b) n (k + 1) (ms ++ [true]) (wordS b (kw k) q)
    rw [List.length_append, List.length_singleton] at this
    omega
  ·exact Nat.le_add_right _ _
theorem parseM_len (b : List Int) (n : Nat) : (parseM b n).1.length ≤ n := by
 unfold parseM mbody
 have := modS_len (b := b) n 0 [] (wordS b [118, 32] (0, 0))
 rw [List.length_nil] at this
 split
 ·simp only; omega
 ·simp only [List.length_nil]; omega
theorem small_tx {f : Cnf} (hr : rightT f = true) (hs : SmallP f 40) : (tx f).length ≤ 40000 := by
 obtain ⟨h1, h2, h3⟩ := right_parts hr
 have g1 := tx0_len (N := f.N) (n := f.cs.length) ⟨by omega, by omega⟩ (by omega)
 have g2 := flat_len (g := tcl) (n := 882) (l := f.cs) fun c hc => by
  have := cb_len (l := c) fun x hx => by
   have := (h3 c hc).2 x hx
   exact ⟨by omega, by omega⟩
  have := hs.2 c hc
  unfold tcl
  rw [List.length_append]
  simp only [List.length_cons, List.length_nil]
  omega
 have := hs.1
 unfold tx
 rw [List.length_append]
 omega
theorem parse_own {f : Cnf} (hr : rightT f = true) (hs : SmallP f 40) : parseT (tx f) = (f, ((tx f).length : Int), 0) := by
 have h1 := small_tx hr hs
 have := parse_text hr [] (by rw [List.append_nil]; omega)
 rw [List.append_nil, if_pos rfl] at this
 exact this
theorem small_dec (f : Cnf) : ∃ v, ref03_Small f 40 = some v ∧ (v = true ↔ SmallP f 40) := Small_eq f (n := 40) (by decide)
theorem cnf_ext {f g : Cnf} (h1 : f.N = g.N) (h2 : f.cs = g.cs) : f = g := by
 cases f; cases g; simp only at h1 h2; subst h1 h2; rfl
end Go.Vid
