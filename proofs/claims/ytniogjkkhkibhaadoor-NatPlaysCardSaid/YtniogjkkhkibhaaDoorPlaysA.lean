/- NatPlays: what its calls answer, and its arguments. -/
import Derived.Test.YtniogjkkhkibhaaDoorPlaysP
import Derived.Test.YtniogjkkhkibhaaDoorPick
import Derived.Test.YtniogjkkhkibhaaDoorLawB
namespace Go.Proofs.YtniogjkkhkibhaaDoor
set_option linter.unusedVariables false
set_option linter.unusedSimpArgs false
open Go.RowKit Verge

theorem will_undef {P : Program} {ops : Array Oper} {o : Oper} {a : Act} {w : World} {C : Value → World → Prop} {g : Nat} {b : Bool} {d : Tmp} (hg : o.guard = some (g, b)) (hd : (ops[g]?).bind (·.dst) = some d) (hv : a.tmps.getD d undef = undef) (h : C undef w) : Will P ops o a w C := by
  unfold Will
  rw [Array.getD_eq_getD_getElem?] at hv
  have hy : yielded ops a.tmps g = none := by
    unfold yielded
    rw [hd]
    cases he : a.tmps[d]? with
    | none => simp [he]
    | some x =>
      rw [he] at hv
      simp only [Option.getD_some] at hv
      subst hv
      simp [he, undef]
  rw [if_neg (by simp [Region.wanted, hg, hy])]; exact h

/-- The rows of lists that come in. -/
def Fst (w : World) (F : Option Addr) (nf : Nat) : Prop := ∀ i, i < nf → ∃ b o, F = some ⟨b, o, none⟩ ∧ ∃ A n c X, w.cell? ⟨b, o + i, none⟩ = some (.slice A n c) ∧ Rd w A X ∧ X.length = n ∧ n ≤ 70368744177664
/-- The steps that come in. -/
def Stp (w : World) (S : Option Addr) (ns : Nat) : Prop := ∀ i, i < ns → ∃ b o, S = some ⟨b, o, none⟩ ∧ ∃ c a d e : Int, w.cell? ⟨b, o + i * 4, none⟩ = some (.int .i64 c) ∧ w.cell? ⟨b, o + i * 4 + 1, none⟩ = some (.int .i64 a) ∧ w.cell? ⟨b, o + i * 4 + 2, none⟩ = some (.int .i64 d) ∧ w.cell? ⟨b, o + i * 4 + 3, none⟩ = some (.int .i64 e) ∧
  (-9223372036854775808 ≤ c ∧ c ≤ 9223372036854775807) ∧ (-9223372036854775808 ≤ a ∧ a ≤ 9223372036854775807) ∧ (-9223372036854775808 ≤ d ∧ d ≤ 9223372036854775807) ∧ (-9223372036854775808 ≤ e ∧ e ≤ 9223372036854775807)
/-- An answer of 'ask' or 'want'. -/
def IsA (a : Ans) (v : Value) (w : World) : Prop := ∃ AL cl AM cm, v = .agg #[.slice AL a.l.length cl, .slice AM a.m.length cm, .int .u64 (a.wv : Nat), .int .i64 a.nv, .bool a.bv, .int .i64 a.ev] ∧ Rd w AL a.l ∧ Rd w AM a.m
theorem IsA.mono (a : Ans) : Mono (IsA a) := fun _ _ _ hb ⟨AL, cl, AM, cm, e, h, k⟩ => ⟨AL, cl, AM, cm, e, h.below hb, k.below hb⟩
/-- An answer of 'ask': lists without spare room. -/
def IsA' (a : Ans) (v : Value) (w : World) : Prop := ∃ AL AM, v = .agg #[.slice AL a.l.length a.l.length, .slice AM a.m.length a.m.length, .int .u64 (a.wv : Nat), .int .i64 a.nv, .bool a.bv, .int .i64 a.ev] ∧ Rd w AL a.l ∧ Rd w AM a.m
theorem IsA'.mono (a : Ans) : Mono (IsA' a) := fun _ _ _ hb ⟨AL, AM, e, h, k⟩ => ⟨AL, AM, e, h.below hb, k.below hb⟩
/-- A list in new memory. -/
def IsC (xs : List Nat) (v : Value) (w : World) : Prop := ∃ A, v = .slice A xs.length xs.length ∧ Rd w A xs
theorem IsC.mono (xs : List Nat) : Mono (IsC xs) := fun _ _ _ hb ⟨A, e, h⟩ => ⟨A, e, h.below hb⟩

theorem place8_any (x : Int) (h1 : -9223372036854775808 ≤ x) (h2 : x ≤ 9223372036854775807) (w : World) : Calls Tryd.prog 28 #[.int .i64 x] w fun e w' => e = .returned (.int .i64 (if x < 0 then 0 else x % 8)) ∧ w = w' := by
  by_cases h : x < 0
  · rw [if_pos h]
    go_enter Tryd.func28, Tryd.ntmps28
    go_wp2
    go_ret
    exact ⟨rfl, rfl⟩
  · rw [if_neg h]
    have h0 : 0 ≤ x := by omega
    go_enter Tryd.func28, Tryd.ntmps28
    go_wp2
    go_ret
    exact ⟨rfl, rfl⟩
theorem place8_n (x : Int) (h1 : -9223372036854775808 ≤ x) (h2 : x ≤ 9223372036854775807) : ∃ a : Nat, a < 8 ∧ ∀ w : World, Calls Tryd.prog 28 #[.int .i64 x] w fun e w' => e = .returned (.int .i64 (a : Int)) ∧ w = w' := by
  refine ⟨(if x < 0 then 0 else x % 8).toNat, by split <;> omega, fun w => ?_⟩
  rw [show (((if x < 0 then 0 else x % 8).toNat : Nat) : Int) = if x < 0 then 0 else x % 8 by split <;> omega]
  exact place8_any x h1 h2 w
/-- What is known of each call. -/
theorem knowz_0 (v : Nat) (e : Int) (hv : v < 18446744073709551616) (he0 : -9223372036854775808 ≤ e) (he1 : e ≤ 9223372036854775807) : ∀ L M : List Nat, W32 L → W32 M → L.length ≤ 16384 → M.length ≤ 16384 → Knows 0 v e L M (ansOf 0 (val L) (val M) v e) :=
  fun L M hL hM h1 h2 => ⟨fun A n c A' n' c' w h hn hc hm h' hn' hc' hm' hT => ask_0 A n c L A' n' c' M v e w h hn hc hm h' hn' hc' hm' hv he0 he1 hT,
    fun A n c A' n' c' w h hn hm h' hn' hm' => want_0 A n c L A' n' c' M v e w h hn hm h' hn' hm' hv he0 he1, Nat.le_trans (by rw [ansOf, ← wl_eq hL]; exact wl_le L) (show L.length ≤ 35184372088000 by omega), (show ([] : List Nat).length ≤ 35184372088000 by simp)⟩
theorem knowz_1 (v : Nat) (e : Int) (hv : v < 18446744073709551616) (he0 : -9223372036854775808 ≤ e) (he1 : e ≤ 9223372036854775807) : ∀ L M : List Nat, W32 L → W32 M → L.length ≤ 16384 → M.length ≤ 16384 → Knows 1 v e L M (ansOf 1 (val L) (val M) v e) :=
  fun L M hL hM h1 h2 => ⟨fun A n c A' n' c' w h hn hc hm h' hn' hc' hm' hT => ask_1 A n c L A' n' c' M v e w h hn hc hm h' hn' hc' hm' hv he0 he1 hT,
    fun A n c A' n' c' w h hn hm h' hn' hm' => want_1 A n c L A' n' c' M v e w h hn hm h' hn' hm' hv he0 he1, small_len (by omega) hv, (show ([] : List Nat).length ≤ 35184372088000 by simp)⟩
theorem knowz_2 (v : Nat) (e : Int) (hv : v < 18446744073709551616) (he0 : -9223372036854775808 ≤ e) (he1 : e ≤ 9223372036854775807) : ∀ L M : List Nat, W32 L → W32 M → L.length ≤ 16384 → M.length ≤ 16384 → Knows 2 v e L M (ansOf 2 (val L) (val M) v e) :=
  fun L M hL hM h1 h2 => ⟨fun A n c A' n' c' w h hn hc hm h' hn' hc' hm' hT => ask_2 A n c L A' n' c' M v e w h hn hc hm h' hn' hc' hm' hv he0 he1 hT,
    fun A n c A' n' c' w h hn hm h' hn' hm' => want_2 A n c L A' n' c' M v e w h hn hm h' hn' hm' hv he0 he1, (show ([] : List Nat).length ≤ 35184372088000 by simp), (show ([] : List Nat).length ≤ 35184372088000 by simp)⟩
theorem knowz_3 (v : Nat) (e : Int) (hv : v < 18446744073709551616) (he0 : -9223372036854775808 ≤ e) (he1 : e ≤ 9223372036854775807) : ∀ L M : List Nat, W32 L → W32 M → L.length ≤ 16384 → M.length ≤ 16384 → Knows 3 v e L M (ansOf 3 (val L) (val M) v e) :=
  fun L M hL hM h1 h2 => ⟨fun A n c A' n' c' w h hn hc hm h' hn' hc' hm' hT => ask_3 A n c L A' n' c' M v e w h hn hc hm h' hn' hc' hm' hv he0 he1 hT,
    fun A n c A' n' c' w h hn hm h' hn' hm' => want_3 A n c L A' n' c' M v e w h hn hm h' hn' hm' hv he0 he1, (show ([] : List Nat).length ≤ 35184372088000 by simp), (show ([] : List Nat).length ≤ 35184372088000 by simp)⟩
theorem knowz_4 (v : Nat) (e : Int) (hv : v < 18446744073709551616) (he0 : -9223372036854775808 ≤ e) (he1 : e ≤ 9223372036854775807) : ∀ L M : List Nat, W32 L → W32 M → L.length ≤ 16384 → M.length ≤ 16384 → Knows 4 v e L M (ansOf 4 (val L) (val M) v e) :=
  fun L M hL hM h1 h2 => ⟨fun A n c A' n' c' w h hn hc hm h' hn' hc' hm' hT => ask_4 A n c L A' n' c' M v e w h hn hc hm h' hn' hc' hm' hv he0 he1 hT,
    fun A n c A' n' c' w h hn hm h' hn' hm' => want_4 A n c L A' n' c' M v e w h hn hm h' hn' hm' hv he0 he1, (show ([] : List Nat).length ≤ 35184372088000 by simp), (show ([] : List Nat).length ≤ 35184372088000 by simp)⟩
theorem knowz_5 (v : Nat) (e : Int) (hv : v < 18446744073709551616) (he0 : -9223372036854775808 ≤ e) (he1 : e ≤ 9223372036854775807) : ∀ L M : List Nat, W32 L → W32 M → L.length ≤ 16384 → M.length ≤ 16384 → Knows 5 v e L M (ansOf 5 (val L) (val M) v e) :=
  fun L M hL hM h1 h2 => ⟨fun A n c A' n' c' w h hn hc hm h' hn' hc' hm' hT => ask_5 A n c L A' n' c' M v e w h hn hc hm h' hn' hc' hm' hv he0 he1 hT,
    fun A n c A' n' c' w h hn hm h' hn' hm' => want_5 A n c L A' n' c' M v e w h hn hm h' hn' hm' hv he0 he1, (show ([] : List Nat).length ≤ 35184372088000 by simp), (show ([] : List Nat).length ≤ 35184372088000 by simp)⟩
theorem knowz_6 (v : Nat) (e : Int) (hv : v < 18446744073709551616) (he0 : -9223372036854775808 ≤ e) (he1 : e ≤ 9223372036854775807) : ∀ L M : List Nat, W32 L → W32 M → L.length ≤ 16384 → M.length ≤ 16384 → Knows 6 v e L M (ansOf 6 (val L) (val M) v e) :=
  fun L M hL hM h1 h2 => ⟨fun A n c A' n' c' w h hn hc hm h' hn' hc' hm' hT => ask_6 A n c L A' n' c' M v e w h hn hc hm h' hn' hc' hm' hv he0 he1 hT,
    fun A n c A' n' c' w h hn hm h' hn' hm' => want_6 A n c L A' n' c' M v e w h hn hm h' hn' hm' hv he0 he1, nadd_len _ _ _ (by omega), (show ([] : List Nat).length ≤ 35184372088000 by simp)⟩
theorem knowz_7 (v : Nat) (e : Int) (hv : v < 18446744073709551616) (he0 : -9223372036854775808 ≤ e) (he1 : e ≤ 9223372036854775807) : ∀ L M : List Nat, W32 L → W32 M → L.length ≤ 16384 → M.length ≤ 16384 → Knows 7 v e L M (ansOf 7 (val L) (val M) v e) :=
  fun L M hL hM h1 h2 => ⟨fun A n c A' n' c' w h hn hc hm h' hn' hc' hm' hT => ask_7 A n c L A' n' c' M v e w h hn hc hm h' hn' hc' hm' hv he0 he1 hT,
    fun A n c A' n' c' w h hn hm h' hn' hm' => want_7 A n c L A' n' c' M v e w h hn hm h' hn' hm' hv he0 he1, nsub_len _ _ _ (by omega), (show ([] : List Nat).length ≤ 35184372088000 by simp)⟩
theorem knowz_8 (v : Nat) (e : Int) (hv : v < 18446744073709551616) (he0 : -9223372036854775808 ≤ e) (he1 : e ≤ 9223372036854775807) : ∀ L M : List Nat, W32 L → W32 M → L.length ≤ 16384 → M.length ≤ 16384 → Knows 8 v e L M (ansOf 8 (val L) (val M) v e) :=
  fun L M hL hM h1 h2 => ⟨fun A n c A' n' c' w h hn hc hm h' hn' hc' hm' hT => ask_8 A n c L A' n' c' M v e w h hn hc hm h' hn' hc' hm' hv he0 he1 hT,
    fun A n c A' n' c' w h hn hm h' hn' hm' => want_8 A n c L A' n' c' M v e w h hn hm h' hn' hm' hv he0 he1, nmul_len _ _ _ (by omega), (show ([] : List Nat).length ≤ 35184372088000 by simp)⟩
theorem knowz_9 (v : Nat) (e : Int) (hv : v < 18446744073709551616) (he0 : -9223372036854775808 ≤ e) (he1 : e ≤ 9223372036854775807) : ∀ L M : List Nat, W32 L → W32 M → L.length ≤ 16384 → M.length ≤ 16384 → Knows 9 v e L M (ansOf 9 (val L) (val M) v e) :=
  fun L M hL hM h1 h2 => ⟨fun A n c A' n' c' w h hn hc hm h' hn' hc' hm' hT => ask_9 A n c L A' n' c' M v e w h hn hc hm h' hn' hc' hm' hv he0 he1 hT,
    fun A n c A' n' c' w h hn hm h' hn' hm' => want_9 A n c L A' n' c' M v e w h hn hm h' hn' hm' hv he0 he1, (nquo_len _ _ _ (by omega)).1, (nquo_len _ _ _ (by omega)).2⟩
theorem knowz_10 (v : Nat) (e : Int) (hv : v < 18446744073709551616) (he0 : -9223372036854775808 ≤ e) (he1 : e ≤ 9223372036854775807) : ∀ L M : List Nat, W32 L → W32 M → L.length ≤ 16384 → M.length ≤ 16384 → Knows 10 v e L M (ansOf 10 (val L) (val M) v e) :=
  fun L M hL hM h1 h2 => ⟨fun A n c A' n' c' w h hn hc hm h' hn' hc' hm' hT => ask_10 A n c L A' n' c' M v e w h hn hc hm h' hn' hc' hm' hv he0 he1 hT,
    fun A n c A' n' c' w h hn hm h' hn' hm' => want_10 A n c L A' n' c' M v e w h hn hm h' hn' hm' hv he0 he1, nroot_len _ _ (by omega), (show ([] : List Nat).length ≤ 35184372088000 by simp)⟩
theorem knowz_11 (v : Nat) (e : Int) (hv : v < 18446744073709551616) (he0 : -9223372036854775808 ≤ e) (he1 : e ≤ 9223372036854775807) : ∀ L M : List Nat, W32 L → W32 M → L.length ≤ 16384 → M.length ≤ 16384 → Knows 11 v e L M (ansOf 11 (val L) (val M) v e) :=
  fun L M hL hM h1 h2 => ⟨fun A n c A' n' c' w h hn hc hm h' hn' hc' hm' hT => ask_11 A n c L A' n' c' M v e w h hn hc hm h' hn' hc' hm' hv he0 he1 hT,
    fun A n c A' n' c' w h hn hm h' hn' hm' => want_11 A n c L A' n' c' M v e w h hn hm h' hn' hm' hv he0 he1, npow_len _ _ _ (by omega), (show ([] : List Nat).length ≤ 35184372088000 by simp)⟩
theorem knowz_12 (v : Nat) (e : Int) (hv : v < 18446744073709551616) (he0 : -9223372036854775808 ≤ e) (he1 : e ≤ 9223372036854775807) : ∀ L M : List Nat, W32 L → W32 M → L.length ≤ 16384 → M.length ≤ 16384 → Knows 12 v e L M (ansOf 12 (val L) (val M) v e) :=
  fun L M hL hM h1 h2 => ⟨fun A n c A' n' c' w h hn hc hm h' hn' hc' hm' hT => ask_12 A n c L A' n' c' M v e w h hn hc hm h' hn' hc' hm' hv he0 he1 hT,
    fun A n c A' n' c' w h hn hm h' hn' hm' => want_12 A n c L A' n' c' M v e w h hn hm h' hn' hm' hv he0 he1, nshl_len _ _ _ (by omega), (show ([] : List Nat).length ≤ 35184372088000 by simp)⟩
theorem knowz_13 (v : Nat) (e : Int) (hv : v < 18446744073709551616) (he0 : -9223372036854775808 ≤ e) (he1 : e ≤ 9223372036854775807) : ∀ L M : List Nat, W32 L → W32 M → L.length ≤ 16384 → M.length ≤ 16384 → Knows 13 v e L M (ansOf 13 (val L) (val M) v e) :=
  fun L M hL hM h1 h2 => ⟨fun A n c A' n' c' w h hn hc hm h' hn' hc' hm' hT => ask_13 A n c L A' n' c' M v e w h hn hc hm h' hn' hc' hm' hv he0 he1 hT,
    fun A n c A' n' c' w h hn hm h' hn' hm' => want_13 A n c L A' n' c' M v e w h hn hm h' hn' hm' hv he0 he1, nshr_len _ _ _ (by omega), (show ([] : List Nat).length ≤ 35184372088000 by simp)⟩
theorem knowz_k (k : Nat) (hk : k < 14) (e : Int) (he0 : -9223372036854775808 ≤ e) (he1 : e ≤ 9223372036854775807) (L M : List Nat) (hL : W32 L) (hM : W32 M) (h1 : L.length ≤ 16384) (h2 : M.length ≤ 16384) : Knows (k : Int) 5 e L M (ansOf k (val L) (val M) 5 e) := by
  rcases k with _ | _ | _ | _ | _ | _ | _ | _ | _ | _ | _ | _ | _ | _ | k
  · exact knowz_0 5 e (by omega) he0 he1 L M hL hM h1 h2
  · exact knowz_1 5 e (by omega) he0 he1 L M hL hM h1 h2
  · exact knowz_2 5 e (by omega) he0 he1 L M hL hM h1 h2
  · exact knowz_3 5 e (by omega) he0 he1 L M hL hM h1 h2
  · exact knowz_4 5 e (by omega) he0 he1 L M hL hM h1 h2
  · exact knowz_5 5 e (by omega) he0 he1 L M hL hM h1 h2
  · exact knowz_6 5 e (by omega) he0 he1 L M hL hM h1 h2
  · exact knowz_7 5 e (by omega) he0 he1 L M hL hM h1 h2
  · exact knowz_8 5 e (by omega) he0 he1 L M hL hM h1 h2
  · exact knowz_9 5 e (by omega) he0 he1 L M hL hM h1 h2
  · exact knowz_10 5 e (by omega) he0 he1 L M hL hM h1 h2
  · exact knowz_11 5 e (by omega) he0 he1 L M hL hM h1 h2
  · exact knowz_12 5 e (by omega) he0 he1 L M hL hM h1 h2
  · exact knowz_13 5 e (by omega) he0 he1 L M hL hM h1 h2
  · omega
theorem dig_le (L : List Nat) (hL : W32 L) (h : L.length ≤ 16384) : (dig (val L)).length ≤ 16384 := by rw [← wl_eq hL]; exact Nat.le_trans (wl_le L) h
theorem ans_len (k : Nat) (e : Int) (L M : List Nat) (hL : W32 L) (h1 : L.length ≤ 16384) : (ansOf k (val L) (val M) 5 e).l.length ≤ 16384 ∧ (ansOf k (val L) (val M) 5 e).m.length ≤ 16384 := by
  unfold ansOf
  split <;> refine ⟨?_, ?_⟩
  all_goals first
    | exact Nat.zero_le _
    | exact dig_le L hL h1
    | exact small_len (Nat.le_refl _) (by omega)
    | exact nadd_len _ _ _ (Nat.le_refl _)
    | exact nsub_len _ _ _ (Nat.le_refl _)
    | exact nmul_len _ _ _ (Nat.le_refl _)
    | exact (nquo_len _ _ _ (Nat.le_refl _)).1
    | exact (nquo_len _ _ _ (Nat.le_refl _)).2
    | exact nroot_len _ _ (Nat.le_refl _)
    | exact npow_len _ _ _ (Nat.le_refl _)
    | exact nshl_len _ _ _ (Nat.le_refl _)
    | exact nshr_len _ _ _ (Nat.le_refl _)
end Go.Proofs.YtniogjkkhkibhaaDoor
