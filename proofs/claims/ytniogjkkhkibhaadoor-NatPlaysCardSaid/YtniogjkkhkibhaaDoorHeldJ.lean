/- vergelaw2: what is known of each call; the laws that ask 'held'. -/
import Derived.Test.YtniogjkkhkibhaaDoorHeldI
import Derived.Test.YtniogjkkhkibhaaDoorPlainL
namespace Go.Proofs.YtniogjkkhkibhaaDoor
set_option linter.unusedVariables false
set_option linter.unusedSimpArgs false
open Go.RowKit Verge

theorem knows_0 (v : Nat) (e : Int) (hv : v < 18446744073709551616) (he0 : -9223372036854775808 ≤ e) (he1 : e ≤ 9223372036854775807) : ∀ L M : List Nat, W32 L → W32 M → L.length ≤ 35184372087900 → M.length ≤ 35184372087900 → ∃ a, Knows 0 v e L M a :=
  fun L M hL hM h1 h2 => ⟨ansOf 0 (val L) (val M) v e, ⟨fun A n c A' n' c' w h hn hc hm h' hn' hc' hm' hT => ask_0 A n c L A' n' c' M v e w h hn hc hm h' hn' hc' hm' hv he0 he1 hT,
    fun A n c A' n' c' w h hn hm h' hn' hm' => want_0 A n c L A' n' c' M v e w h hn hm h' hn' hm' hv he0 he1, Nat.le_trans (by rw [ansOf, ← wl_eq hL]; exact wl_le L) (show L.length ≤ 35184372088000 by omega), (show ([] : List Nat).length ≤ 35184372088000 by simp)⟩⟩
theorem knows_1 (v : Nat) (e : Int) (hv : v < 18446744073709551616) (he0 : -9223372036854775808 ≤ e) (he1 : e ≤ 9223372036854775807) : ∀ L M : List Nat, W32 L → W32 M → L.length ≤ 35184372087900 → M.length ≤ 35184372087900 → ∃ a, Knows 1 v e L M a :=
  fun L M hL hM h1 h2 => ⟨ansOf 1 (val L) (val M) v e, ⟨fun A n c A' n' c' w h hn hc hm h' hn' hc' hm' hT => ask_1 A n c L A' n' c' M v e w h hn hc hm h' hn' hc' hm' hv he0 he1 hT,
    fun A n c A' n' c' w h hn hm h' hn' hm' => want_1 A n c L A' n' c' M v e w h hn hm h' hn' hm' hv he0 he1, small_len (by omega) hv, (show ([] : List Nat).length ≤ 35184372088000 by simp)⟩⟩
theorem knows_2 (v : Nat) (e : Int) (hv : v < 18446744073709551616) (he0 : -9223372036854775808 ≤ e) (he1 : e ≤ 9223372036854775807) : ∀ L M : List Nat, W32 L → W32 M → L.length ≤ 35184372087900 → M.length ≤ 35184372087900 → ∃ a, Knows 2 v e L M a :=
  fun L M hL hM h1 h2 => ⟨ansOf 2 (val L) (val M) v e, ⟨fun A n c A' n' c' w h hn hc hm h' hn' hc' hm' hT => ask_2 A n c L A' n' c' M v e w h hn hc hm h' hn' hc' hm' hv he0 he1 hT,
    fun A n c A' n' c' w h hn hm h' hn' hm' => want_2 A n c L A' n' c' M v e w h hn hm h' hn' hm' hv he0 he1, (show ([] : List Nat).length ≤ 35184372088000 by simp), (show ([] : List Nat).length ≤ 35184372088000 by simp)⟩⟩
theorem knows_3 (v : Nat) (e : Int) (hv : v < 18446744073709551616) (he0 : -9223372036854775808 ≤ e) (he1 : e ≤ 9223372036854775807) : ∀ L M : List Nat, W32 L → W32 M → L.length ≤ 35184372087900 → M.length ≤ 35184372087900 → ∃ a, Knows 3 v e L M a :=
  fun L M hL hM h1 h2 => ⟨ansOf 3 (val L) (val M) v e, ⟨fun A n c A' n' c' w h hn hc hm h' hn' hc' hm' hT => ask_3 A n c L A' n' c' M v e w h hn hc hm h' hn' hc' hm' hv he0 he1 hT,
    fun A n c A' n' c' w h hn hm h' hn' hm' => want_3 A n c L A' n' c' M v e w h hn hm h' hn' hm' hv he0 he1, (show ([] : List Nat).length ≤ 35184372088000 by simp), (show ([] : List Nat).length ≤ 35184372088000 by simp)⟩⟩
theorem knows_4 (v : Nat) (e : Int) (hv : v < 18446744073709551616) (he0 : -9223372036854775808 ≤ e) (he1 : e ≤ 9223372036854775807) : ∀ L M : List Nat, W32 L → W32 M → L.length ≤ 35184372087900 → M.length ≤ 35184372087900 → ∃ a, Knows 4 v e L M a :=
  fun L M hL hM h1 h2 => ⟨ansOf 4 (val L) (val M) v e, ⟨fun A n c A' n' c' w h hn hc hm h' hn' hc' hm' hT => ask_4 A n c L A' n' c' M v e w h hn hc hm h' hn' hc' hm' hv he0 he1 hT,
    fun A n c A' n' c' w h hn hm h' hn' hm' => want_4 A n c L A' n' c' M v e w h hn hm h' hn' hm' hv he0 he1, (show ([] : List Nat).length ≤ 35184372088000 by simp), (show ([] : List Nat).length ≤ 35184372088000 by simp)⟩⟩
theorem knows_5 (v : Nat) (e : Int) (hv : v < 18446744073709551616) (he0 : -9223372036854775808 ≤ e) (he1 : e ≤ 9223372036854775807) : ∀ L M : List Nat, W32 L → W32 M → L.length ≤ 35184372087900 → M.length ≤ 35184372087900 → ∃ a, Knows 5 v e L M a :=
  fun L M hL hM h1 h2 => ⟨ansOf 5 (val L) (val M) v e, ⟨fun A n c A' n' c' w h hn hc hm h' hn' hc' hm' hT => ask_5 A n c L A' n' c' M v e w h hn hc hm h' hn' hc' hm' hv he0 he1 hT,
    fun A n c A' n' c' w h hn hm h' hn' hm' => want_5 A n c L A' n' c' M v e w h hn hm h' hn' hm' hv he0 he1, (show ([] : List Nat).length ≤ 35184372088000 by simp), (show ([] : List Nat).length ≤ 35184372088000 by simp)⟩⟩
theorem knows_6 (v : Nat) (e : Int) (hv : v < 18446744073709551616) (he0 : -9223372036854775808 ≤ e) (he1 : e ≤ 9223372036854775807) : ∀ L M : List Nat, W32 L → W32 M → L.length ≤ 35184372087900 → M.length ≤ 35184372087900 → ∃ a, Knows 6 v e L M a :=
  fun L M hL hM h1 h2 => ⟨ansOf 6 (val L) (val M) v e, ⟨fun A n c A' n' c' w h hn hc hm h' hn' hc' hm' hT => ask_6 A n c L A' n' c' M v e w h hn hc hm h' hn' hc' hm' hv he0 he1 hT,
    fun A n c A' n' c' w h hn hm h' hn' hm' => want_6 A n c L A' n' c' M v e w h hn hm h' hn' hm' hv he0 he1, nadd_len _ _ _ (by omega), (show ([] : List Nat).length ≤ 35184372088000 by simp)⟩⟩
theorem knows_7 (v : Nat) (e : Int) (hv : v < 18446744073709551616) (he0 : -9223372036854775808 ≤ e) (he1 : e ≤ 9223372036854775807) : ∀ L M : List Nat, W32 L → W32 M → L.length ≤ 35184372087900 → M.length ≤ 35184372087900 → ∃ a, Knows 7 v e L M a :=
  fun L M hL hM h1 h2 => ⟨ansOf 7 (val L) (val M) v e, ⟨fun A n c A' n' c' w h hn hc hm h' hn' hc' hm' hT => ask_7 A n c L A' n' c' M v e w h hn hc hm h' hn' hc' hm' hv he0 he1 hT,
    fun A n c A' n' c' w h hn hm h' hn' hm' => want_7 A n c L A' n' c' M v e w h hn hm h' hn' hm' hv he0 he1, nsub_len _ _ _ (by omega), (show ([] : List Nat).length ≤ 35184372088000 by simp)⟩⟩
theorem knows_8 (v : Nat) (e : Int) (hv : v < 18446744073709551616) (he0 : -9223372036854775808 ≤ e) (he1 : e ≤ 9223372036854775807) : ∀ L M : List Nat, W32 L → W32 M → L.length ≤ 35184372087900 → M.length ≤ 35184372087900 → ∃ a, Knows 8 v e L M a :=
  fun L M hL hM h1 h2 => ⟨ansOf 8 (val L) (val M) v e, ⟨fun A n c A' n' c' w h hn hc hm h' hn' hc' hm' hT => ask_8 A n c L A' n' c' M v e w h hn hc hm h' hn' hc' hm' hv he0 he1 hT,
    fun A n c A' n' c' w h hn hm h' hn' hm' => want_8 A n c L A' n' c' M v e w h hn hm h' hn' hm' hv he0 he1, nmul_len _ _ _ (by omega), (show ([] : List Nat).length ≤ 35184372088000 by simp)⟩⟩
theorem knows_9 (v : Nat) (e : Int) (hv : v < 18446744073709551616) (he0 : -9223372036854775808 ≤ e) (he1 : e ≤ 9223372036854775807) : ∀ L M : List Nat, W32 L → W32 M → L.length ≤ 35184372087900 → M.length ≤ 35184372087900 → ∃ a, Knows 9 v e L M a :=
  fun L M hL hM h1 h2 => ⟨ansOf 9 (val L) (val M) v e, ⟨fun A n c A' n' c' w h hn hc hm h' hn' hc' hm' hT => ask_9 A n c L A' n' c' M v e w h hn hc hm h' hn' hc' hm' hv he0 he1 hT,
    fun A n c A' n' c' w h hn hm h' hn' hm' => want_9 A n c L A' n' c' M v e w h hn hm h' hn' hm' hv he0 he1, (nquo_len _ _ _ (by omega)).1, (nquo_len _ _ _ (by omega)).2⟩⟩
theorem knows_10 (v : Nat) (e : Int) (hv : v < 18446744073709551616) (he0 : -9223372036854775808 ≤ e) (he1 : e ≤ 9223372036854775807) : ∀ L M : List Nat, W32 L → W32 M → L.length ≤ 35184372087900 → M.length ≤ 35184372087900 → ∃ a, Knows 10 v e L M a :=
  fun L M hL hM h1 h2 => ⟨ansOf 10 (val L) (val M) v e, ⟨fun A n c A' n' c' w h hn hc hm h' hn' hc' hm' hT => ask_10 A n c L A' n' c' M v e w h hn hc hm h' hn' hc' hm' hv he0 he1 hT,
    fun A n c A' n' c' w h hn hm h' hn' hm' => want_10 A n c L A' n' c' M v e w h hn hm h' hn' hm' hv he0 he1, nroot_len _ _ (by omega), (show ([] : List Nat).length ≤ 35184372088000 by simp)⟩⟩
theorem knows_11 (v : Nat) (e : Int) (hv : v < 18446744073709551616) (he0 : -9223372036854775808 ≤ e) (he1 : e ≤ 9223372036854775807) : ∀ L M : List Nat, W32 L → W32 M → L.length ≤ 35184372087900 → M.length ≤ 35184372087900 → ∃ a, Knows 11 v e L M a :=
  fun L M hL hM h1 h2 => ⟨ansOf 11 (val L) (val M) v e, ⟨fun A n c A' n' c' w h hn hc hm h' hn' hc' hm' hT => ask_11 A n c L A' n' c' M v e w h hn hc hm h' hn' hc' hm' hv he0 he1 hT,
    fun A n c A' n' c' w h hn hm h' hn' hm' => want_11 A n c L A' n' c' M v e w h hn hm h' hn' hm' hv he0 he1, npow_len _ _ _ (by omega), (show ([] : List Nat).length ≤ 35184372088000 by simp)⟩⟩
theorem knows_12 (v : Nat) (e : Int) (hv : v < 18446744073709551616) (he0 : -9223372036854775808 ≤ e) (he1 : e ≤ 9223372036854775807) : ∀ L M : List Nat, W32 L → W32 M → L.length ≤ 35184372087900 → M.length ≤ 35184372087900 → ∃ a, Knows 12 v e L M a :=
  fun L M hL hM h1 h2 => ⟨ansOf 12 (val L) (val M) v e, ⟨fun A n c A' n' c' w h hn hc hm h' hn' hc' hm' hT => ask_12 A n c L A' n' c' M v e w h hn hc hm h' hn' hc' hm' hv he0 he1 hT,
    fun A n c A' n' c' w h hn hm h' hn' hm' => want_12 A n c L A' n' c' M v e w h hn hm h' hn' hm' hv he0 he1, nshl_len _ _ _ (by omega), (show ([] : List Nat).length ≤ 35184372088000 by simp)⟩⟩
theorem knows_13 (v : Nat) (e : Int) (hv : v < 18446744073709551616) (he0 : -9223372036854775808 ≤ e) (he1 : e ≤ 9223372036854775807) : ∀ L M : List Nat, W32 L → W32 M → L.length ≤ 35184372087900 → M.length ≤ 35184372087900 → ∃ a, Knows 13 v e L M a :=
  fun L M hL hM h1 h2 => ⟨ansOf 13 (val L) (val M) v e, ⟨fun A n c A' n' c' w h hn hc hm h' hn' hc' hm' hT => ask_13 A n c L A' n' c' M v e w h hn hc hm h' hn' hc' hm' hv he0 he1 hT,
    fun A n c A' n' c' w h hn hm h' hn' hm' => want_13 A n c L A' n' c' M v e w h hn hm h' hn' hm' hv he0 he1, nshr_len _ _ _ (by omega), (show ([] : List Nat).length ≤ 35184372088000 by simp)⟩⟩

section
variable (A : Option Addr) (n c : Nat) (X : List Nat) (A' : Option Addr) (n' c' : Nat) (Y : List Nat) (w : World) (h : Rd w A X) (hn : X.length = n) (hc : n ≤ c) (hm : c ≤ 35184372087808)
    (h' : Rd w A' Y) (hn' : Y.length = n') (hc' : n' ≤ c') (hm' : c' ≤ 35184372087808)

theorem sums_any (A : Option Addr) (n c : Nat) (X : List Nat) (A' : Option Addr) (n' c' : Nat) (Y : List Nat) (w : World) (h : Rd w A X) (hn : X.length = n) (hc : n ≤ c) (hm : c ≤ 35184372087808)
    (h' : Rd w A' Y) (hn' : Y.length = n') (hc' : n' ≤ c') (hm' : c' ≤ 35184372087808) (hT : Tab w) :
    Calls Tryd.prog 6 #[.slice A n c, .slice A' n' c'] w fun e w' => e = .returned (.bool true) ∧ Below w.heap.size w w' := by
  have HH := Lib.hid (held_any 6 0 0 A n c X A' n' c' Y w h hn (by omega) h' hn' (by omega) hT (knows_6 0 0 (by omega) (by omega) (by omega)))
  clear h h' hT hn hn'
  go_enter Tryd.func6, Tryd.ntmps6
  go_wp2_with fail
  refine HH.out.mono ?_
  rintro en w1 ⟨rfl, hb⟩
  go_wp2
  go_ret
  exact ⟨rfl, hb⟩

theorem differences_any (A : Option Addr) (n c : Nat) (X : List Nat) (A' : Option Addr) (n' c' : Nat) (Y : List Nat) (w : World) (h : Rd w A X) (hn : X.length = n) (hc : n ≤ c) (hm : c ≤ 35184372087808)
    (h' : Rd w A' Y) (hn' : Y.length = n') (hc' : n' ≤ c') (hm' : c' ≤ 35184372087808) (hT : Tab w) :
    Calls Tryd.prog 7 #[.slice A n c, .slice A' n' c'] w fun e w' => e = .returned (.bool true) ∧ Below w.heap.size w w' := by
  have HH := Lib.hid (held_any 7 0 0 A n c X A' n' c' Y w h hn (by omega) h' hn' (by omega) hT (knows_7 0 0 (by omega) (by omega) (by omega)))
  clear h h' hT hn hn'
  go_enter Tryd.func7, Tryd.ntmps7
  go_wp2_with fail
  refine HH.out.mono ?_
  rintro en w1 ⟨rfl, hb⟩
  go_wp2
  go_ret
  exact ⟨rfl, hb⟩

theorem products_any (A : Option Addr) (n c : Nat) (X : List Nat) (A' : Option Addr) (n' c' : Nat) (Y : List Nat) (w : World) (h : Rd w A X) (hn : X.length = n) (hc : n ≤ c) (hm : c ≤ 35184372087808)
    (h' : Rd w A' Y) (hn' : Y.length = n') (hc' : n' ≤ c') (hm' : c' ≤ 35184372087808) (hT : Tab w) :
    Calls Tryd.prog 8 #[.slice A n c, .slice A' n' c'] w fun e w' => e = .returned (.bool true) ∧ Below w.heap.size w w' := by
  have HH := Lib.hid (held_any 8 0 0 A n c X A' n' c' Y w h hn (by omega) h' hn' (by omega) hT (knows_8 0 0 (by omega) (by omega) (by omega)))
  clear h h' hT hn hn'
  go_enter Tryd.func8, Tryd.ntmps8
  go_wp2_with fail
  refine HH.out.mono ?_
  rintro en w1 ⟨rfl, hb⟩
  go_wp2
  go_ret
  exact ⟨rfl, hb⟩

theorem quotients_any (A : Option Addr) (n c : Nat) (X : List Nat) (A' : Option Addr) (n' c' : Nat) (Y : List Nat) (w : World) (h : Rd w A X) (hn : X.length = n) (hc : n ≤ c) (hm : c ≤ 35184372087808)
    (h' : Rd w A' Y) (hn' : Y.length = n') (hc' : n' ≤ c') (hm' : c' ≤ 35184372087808) (hT : Tab w) :
    Calls Tryd.prog 9 #[.slice A n c, .slice A' n' c'] w fun e w' => e = .returned (.bool true) ∧ Below w.heap.size w w' := by
  have HH := Lib.hid (held_any 9 0 0 A n c X A' n' c' Y w h hn (by omega) h' hn' (by omega) hT (knows_9 0 0 (by omega) (by omega) (by omega)))
  clear h h' hT hn hn'
  go_enter Tryd.func9, Tryd.ntmps9
  go_wp2_with fail
  refine HH.out.mono ?_
  rintro en w1 ⟨rfl, hb⟩
  go_wp2
  go_ret
  exact ⟨rfl, hb⟩
end

theorem roots_any (A : Option Addr) (n c : Nat) (X : List Nat) (w : World) (h : Rd w A X) (hn : X.length = n) (hc : n ≤ c) (hm : c ≤ 35184372087808) (hT : Tab w) :
    Calls Tryd.prog 10 #[.slice A n c] w fun e w' => e = .returned (.bool true) ∧ Below w.heap.size w w' := by
  have HH := Lib.hid (held_any 10 0 0 A n c X none 0 0 [] w h hn (by omega) Rd.nil rfl (by omega) hT (knows_10 0 0 (by omega) (by omega) (by omega)))
  clear h hT hn
  go_enter Tryd.func10, Tryd.ntmps10
  go_wp2_with fail
  refine HH.out.mono ?_
  rintro en w1 ⟨rfl, hb⟩
  go_wp2
  go_ret
  exact ⟨rfl, hb⟩

theorem powers_any (A : Option Addr) (n c : Nat) (X : List Nat) (m : Int) (w : World) (h : Rd w A X) (hn : X.length = n) (hc : n ≤ c) (hm : c ≤ 35184372087808) (h0 : -9223372036854775808 ≤ m) (h1 : m ≤ 9223372036854775807) (hT : Tab w) :
    Calls Tryd.prog 11 #[.slice A n c, .int .i64 m] w fun e w' => e = .returned (.bool true) ∧ Below w.heap.size w w' := by
  have HH := Lib.hid (held_any 11 0 m A n c X none 0 0 [] w h hn (by omega) Rd.nil rfl (by omega) hT (knows_11 0 m (by omega) (by omega) (by omega)))
  clear h hT hn
  go_enter Tryd.func11, Tryd.ntmps11
  go_wp2_with fail
  refine HH.out.mono ?_
  rintro en w1 ⟨rfl, hb⟩
  go_wp2
  go_ret
  exact ⟨rfl, hb⟩

theorem shifts_any (A : Option Addr) (n c : Nat) (X : List Nat) (m : Int) (w : World) (h : Rd w A X) (hn : X.length = n) (hc : n ≤ c) (hm : c ≤ 35184372087808) (h0 : -9223372036854775808 ≤ m) (h1 : m ≤ 9223372036854775807) (hT : Tab w) :
    Calls Tryd.prog 12 #[.slice A n c, .int .i64 m] w fun e w' => e = .returned (.bool true) ∧ Below w.heap.size w w' := by
  have HH := Lib.hid (held_any 12 0 m A n c X none 0 0 [] w h hn (by omega) Rd.nil rfl (by omega) hT (knows_12 0 m (by omega) (by omega) (by omega)))
  have HJ := Lib.hid (fun W (hb : Below w.heap.size w W) => held_any 13 0 m A n c X none 0 0 [] W (h.below hb) hn (by omega) Rd.nil rfl (by omega) (hT.below hb) (knows_13 0 m (by omega) (by omega) (by omega)))
  clear h hT hn
  go_enter Tryd.func12, Tryd.ntmps12
  go_wp2_with fail
  refine HH.out.mono ?_
  rintro en w1 ⟨rfl, hb⟩
  go_wp2_with fail
  refine (HJ.out _ hb).mono ?_
  rintro en w2 ⟨rfl, hb2⟩
  go_wp2
  go_ret
  exact ⟨rfl, aft hb hb2⟩

set_option maxHeartbeats 2000000 in
theorem numbers_any (A : Option Addr) (n c : Nat) (X : List Nat) (A' : Option Addr) (n' c' : Nat) (Y : List Nat) (m : Int) (w : World) (h : Rd w A X) (hn : X.length = n) (hc : n ≤ c) (hm : c ≤ 35184372087808)
    (h' : Rd w A' Y) (hn' : Y.length = n') (hc' : n' ≤ c') (hm' : c' ≤ 35184372087808) (h0 : 0 ≤ m) (h1 : m ≤ 18446744073709551615) (hT : Tab w) :
    Calls Tryd.prog 5 #[.slice A n c, .slice A' n' c', .int .u64 m] w fun e w' => e = .returned (.bool true) ∧ Below w.heap.size w w' := by
  obtain ⟨v, rfl⟩ := Int.eq_ofNat_of_zero_le h0
  have hv : v < 18446744073709551616 := by omega
  have H0 := Lib.hid (fun W (hb : Below w.heap.size w W) => held_any 0 v 0 A n c X A' n' c' Y W (h.below hb) hn (by omega) (h'.below hb) hn' (by omega) (hT.below hb) (knows_0 v 0 hv (by omega) (by omega)))
  have H1 := Lib.hid (fun W (hb : Below w.heap.size w W) => held_any 1 v 0 A n c X A' n' c' Y W (h.below hb) hn (by omega) (h'.below hb) hn' (by omega) (hT.below hb) (knows_1 v 0 hv (by omega) (by omega)))
  have H2 := Lib.hid (fun W (hb : Below w.heap.size w W) => held_any 2 v 0 A n c X A' n' c' Y W (h.below hb) hn (by omega) (h'.below hb) hn' (by omega) (hT.below hb) (knows_2 v 0 hv (by omega) (by omega)))
  have H3 := Lib.hid (fun W (hb : Below w.heap.size w W) => held_any 3 v 0 A n c X A' n' c' Y W (h.below hb) hn (by omega) (h'.below hb) hn' (by omega) (hT.below hb) (knows_3 v 0 hv (by omega) (by omega)))
  have H4 := Lib.hid (fun W (hb : Below w.heap.size w W) => held_any 3 v 0 A' n' c' Y A n c X W (h'.below hb) hn' (by omega) (h.below hb) hn (by omega) (hT.below hb) (knows_3 v 0 hv (by omega) (by omega)))
  have H5 := Lib.hid (fun W (hb : Below w.heap.size w W) => held_any 4 v 0 A n c X A' n' c' Y W (h.below hb) hn (by omega) (h'.below hb) hn' (by omega) (hT.below hb) (knows_4 v 0 hv (by omega) (by omega)))
  have H6 := Lib.hid (fun W (hb : Below w.heap.size w W) => held_any 5 v 0 A n c X A' n' c' Y W (h.below hb) hn (by omega) (h'.below hb) hn' (by omega) (hT.below hb) (knows_5 v 0 hv (by omega) (by omega)))
  clear h h' hT hn hn' h0 h1
  go_enter Tryd.func5, Tryd.ntmps5
  have hb0 := Below.refl w.heap.size w
  go_wp2_with fail
  refine (H0.out _ hb0).mono ?_
  rintro en w1 ⟨rfl, hq⟩
  have hb1 := aft hb0 hq
  clear hq
  go_wp2_with fail
  refine (H1.out _ hb1).mono ?_
  rintro en w2 ⟨rfl, hq⟩
  have hb2 := aft hb1 hq
  clear hq
  go_wp2_with fail
  refine (H2.out _ hb2).mono ?_
  rintro en w3 ⟨rfl, hq⟩
  have hb3 := aft hb2 hq
  clear hq
  go_wp2_with fail
  refine (H3.out _ hb3).mono ?_
  rintro en w4 ⟨rfl, hq⟩
  have hb4 := aft hb3 hq
  clear hq
  go_wp2_with fail
  refine (H4.out _ hb4).mono ?_
  rintro en w5 ⟨rfl, hq⟩
  have hb5 := aft hb4 hq
  clear hq
  go_wp2_with fail
  refine (H5.out _ hb5).mono ?_
  rintro en w6 ⟨rfl, hq⟩
  have hb6 := aft hb5 hq
  clear hq
  go_wp2_with fail
  refine (H6.out _ hb6).mono ?_
  rintro en w7 ⟨rfl, hq⟩
  have hb7 := aft hb6 hq
  clear hq
  go_wp2
  go_ret
  exact ⟨rfl, hb7⟩
end Go.Proofs.YtniogjkkhkibhaaDoor
