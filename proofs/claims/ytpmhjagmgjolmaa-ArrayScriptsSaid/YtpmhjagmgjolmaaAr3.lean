/- The walks of on, Fail, Replace, Corrupt of layer 10. -/
import Derived.Test.YtpmhjagmgjolmaaAr2
namespace Go.Proofs.Ytpmhjagmgjolmaa.Dk
open Go.RowKit

set_option maxRecDepth 100000 in
theorem on_nil (d : Int) (v : Value) (w : World) : Calls Try.prog 34 #[.pointer none, .int .i64 d, v] w fun e w' => e = .returned (.int .i64 1) ∧ w = w' := by
  have K2 := Lib.hid (disk_nil d w)
  go_enter Try.func34, Try.ntmps34
  go_wp2_with fail
  refine K2.out.mono ?_
  rintro e w1 ⟨rfl, rfl⟩
  go_wp2_with fail
  go_ret
  exact ⟨rfl, rfl⟩
set_option maxRecDepth 100000 in
theorem on_no {ga : Nat} {sv : Value} {gs : List Nat} {a : Arr} {w : World} (d : Int) (v : Value) {S : Nat → Prop} (h : Pa ga sv gs a w S) (hn : noDisk a d) :
    Calls Try.prog 34 #[.pointer (some ⟨ga, 0, none⟩), .int .i64 d, v] w fun e w' => e = .returned (.int .i64 1) ∧ w = w' := by
  have K2 := Lib.hid (disk_no h d hn)
  clear h hn
  go_enter Try.func34, Try.ntmps34
  go_wp2_with fail
  refine K2.out.mono ?_
  rintro e w1 ⟨rfl, rfl⟩
  go_wp2_with fail
  go_ret
  exact ⟨rfl, rfl⟩

set_option maxRecDepth 100000 in
theorem on_fail {ga : Nat} {sv : Value} {gs : List Nat} {a : Arr} {w : World} (d : Int) {S : Nat → Prop} (h : Pa ga sv gs a w S) (hn : ¬ noDisk a d) :
    Calls Try.prog 34 #[.pointer (some ⟨ga, 0, none⟩), .int .i64 d, .func (.func 35) #[] #[]] w fun e w' => e = .returned (.int .i64 (0)) ∧ Step w w' S (Pa ga sv gs (withDk a d ({ dk a d with gone := true, wait := [] })) w') := by
  obtain ⟨g, hg, hop⟩ := Ar.opAt D.res h hn (rest := []) (fun g U hU => fail_step U hU)
  have hk := disk_yes h d.toNat g hg
  rw [(dk_at hn).2] at hk
  have K2 := Lib.hid hk
  have K3 := Lib.hid hop
  clear h hn hk hop
  go_enter Try.func34, Try.ntmps34
  go_wp2_with fail
  refine K2.out.mono ?_
  rintro e w1 ⟨rfl, rfl⟩
  go_wp2_with fail
  refine K3.out.mono ?_
  rintro e w1 ⟨rfl, hs⟩
  have HS := Lib.hid hs
  clear hs
  go_wp2_with fail
  go_ret
  exact ⟨rfl, HS.out⟩

set_option maxRecDepth 100000 in
theorem on_replace {ga : Nat} {sv : Value} {gs : List Nat} {a : Arr} {w : World} (d : Int) {S : Nat → Prop} (h : Pa ga sv gs a w S) (hn : ¬ noDisk a d) :
    Calls Try.prog 34 #[.pointer (some ⟨ga, 0, none⟩), .int .i64 d, .func (.func 37) #[] #[]] w fun e w' => e = .returned (.int .i64 (0)) ∧ Step w w' S (Pa ga sv gs (withDk a d ({ dk a d with gone := false, wait := [], sec := List.replicate (dk a d).sec.length ByteArray.empty })) w') := by
  obtain ⟨g, hg, hop⟩ := Ar.opAt D.res h hn (rest := []) (fun g U hU => replace_step U hU)
  have hk := disk_yes h d.toNat g hg
  rw [(dk_at hn).2] at hk
  have K2 := Lib.hid hk
  have K3 := Lib.hid hop
  clear h hn hk hop
  go_enter Try.func34, Try.ntmps34
  go_wp2_with fail
  refine K2.out.mono ?_
  rintro e w1 ⟨rfl, rfl⟩
  go_wp2_with fail
  refine K3.out.mono ?_
  rintro e w1 ⟨rfl, hs⟩
  have HS := Lib.hid hs
  clear hs
  go_wp2_with fail
  go_ret
  exact ⟨rfl, HS.out⟩

set_option maxRecDepth 100000 in
theorem aclo {g b1 b2 : Nat} {m : Dsk} {w : World} (n : Int) (s : ByteArray) (h1 : w.cell? ⟨b1, 0, none⟩ = some (.int .i64 n)) (h2 : w.cell? ⟨b2, 0, none⟩ = some (.string s)) (hmany : m.wait.length ≤ 1000000) (U : Nat → Prop) (hU : D g m w U) :
    Calls Try.prog 38 #[.pointer (some ⟨g, 0, none⟩), .pointer (some ⟨b1, 0, none⟩), .pointer (some ⟨b2, 0, none⟩)] w fun e w' => e = .returned (.int .i64 (checkE m n s.size)) ∧ Step w w' U (D g (corrupted m n s) w') := by
  have K := Lib.hid (corrupt_at n s hmany U hU)
  clear hU
  go_enter Try.func38, Try.ntmps38
  go_wp2_with fail
  refine K.out.mono ?_
  rintro e w1 ⟨rfl, hs⟩
  have HS := Lib.hid hs
  clear hs
  go_wp2_with fail
  go_ret
  exact ⟨rfl, HS.out⟩

set_option maxRecDepth 100000 in
theorem on_corrupt {ga : Nat} {sv : Value} {gs : List Nat} {a : Arr} {w : World} (d : Int) (n : Int) (s : ByteArray) {b1 b2 : Nat} (h1 : w.cell? ⟨b1, 0, none⟩ = some (.int .i64 n)) (h2 : w.cell? ⟨b2, 0, none⟩ = some (.string s)) {S : Nat → Prop} (h : Pa ga sv gs a w S) (hn : ¬ noDisk a d) (hmany : (dk a d).wait.length ≤ 1000000) :
    Calls Try.prog 34 #[.pointer (some ⟨ga, 0, none⟩), .int .i64 d, .func (.func 38) #[] #[.pointer (some ⟨b1, 0, none⟩), .pointer (some ⟨b2, 0, none⟩)]] w fun e w' => e = .returned (.int .i64 (checkE (dk a d) n s.size)) ∧ Step w w' S (Pa ga sv gs (withDk a d (corrupted (dk a d) n s)) w') := by
  obtain ⟨g, hg, hop⟩ := Ar.opAt D.res h hn (rest := [.pointer (some ⟨b1, 0, none⟩), .pointer (some ⟨b2, 0, none⟩)]) (fun g U hU => aclo n s h1 h2 hmany U hU)
  have hk := disk_yes h d.toNat g hg
  rw [(dk_at hn).2] at hk
  have K2 := Lib.hid hk
  have K3 := Lib.hid hop
  clear h hn hk hop
  go_enter Try.func34, Try.ntmps34
  go_wp2_with fail
  refine K2.out.mono ?_
  rintro e w1 ⟨rfl, rfl⟩
  go_wp2_with fail
  refine K3.out.mono ?_
  rintro e w1 ⟨rfl, hs⟩
  have HS := Lib.hid hs
  clear hs
  go_wp2_with fail
  go_ret
  exact ⟨rfl, HS.out⟩

set_option maxRecDepth 100000 in
theorem afail_nil (d : Int) (w : World) : Calls Try.prog 17 #[.pointer none, .int .i64 d] w fun e w' => e = .returned (.int .i64 1) ∧ w = w' := by
  have K2 := Lib.hid (fun v => on_nil d v w)
  go_enter Try.func17, Try.ntmps17
  go_wp2_with fail
  refine (K2.out _).mono ?_
  rintro e w1 ⟨rfl, rfl⟩
  go_wp2_with fail
  go_ret
  exact ⟨rfl, rfl⟩
def afaild (a : Arr) (d : Int) : Arr := if noDisk a d then a else withDk a d { dk a d with gone := true, wait := [] }
set_option maxRecDepth 100000 in
theorem afail_at {ga : Nat} {sv : Value} {gs : List Nat} {a : Arr} {w : World} (d : Int) (S : Nat → Prop) (h : Pa ga sv gs a w S) :
    Calls Try.prog 17 #[.pointer (some ⟨ga, 0, none⟩), .int .i64 d] w fun e w' => e = .returned (.int .i64 (if noDisk a d then 1 else 0)) ∧ Step w w' S (Pa ga sv gs (afaild a d) w') := by
  unfold afaild
  by_cases hn : noDisk a d
  · rw [if_pos hn, if_pos hn]
    have K2 := Lib.hid (fun v => on_no d v h hn)
    have H := Lib.hid h
    clear hn h
    go_enter Try.func17, Try.ntmps17
    go_wp2_with fail
    refine (K2.out _).mono ?_
    rintro e w1 ⟨rfl, rfl⟩
    go_wp2_with fail
    go_ret
    exact ⟨rfl, Step.same (Pa.res _ _ _ _) H.out (Fr.refl _ _)⟩
  rw [if_neg hn, if_neg hn]
  have K2 := Lib.hid (on_fail d h hn)
  clear hn h
  go_enter Try.func17, Try.ntmps17
  go_wp2_with fail
  refine K2.out.mono ?_
  rintro e w1 ⟨rfl, hs⟩
  have HS := Lib.hid hs
  clear hs
  go_wp2_with fail
  go_ret
  exact ⟨rfl, HS.out⟩

set_option maxRecDepth 100000 in
theorem areplace_nil (d : Int) (w : World) : Calls Try.prog 19 #[.pointer none, .int .i64 d] w fun e w' => e = .returned (.int .i64 1) ∧ w = w' := by
  have K2 := Lib.hid (fun v => on_nil d v w)
  go_enter Try.func19, Try.ntmps19
  go_wp2_with fail
  refine (K2.out _).mono ?_
  rintro e w1 ⟨rfl, rfl⟩
  go_wp2_with fail
  go_ret
  exact ⟨rfl, rfl⟩
def areplaced (a : Arr) (d : Int) : Arr := if noDisk a d then a else withDk a d { dk a d with gone := false, wait := [], sec := List.replicate (dk a d).sec.length ByteArray.empty }
set_option maxRecDepth 100000 in
theorem areplace_at {ga : Nat} {sv : Value} {gs : List Nat} {a : Arr} {w : World} (d : Int) (S : Nat → Prop) (h : Pa ga sv gs a w S) :
    Calls Try.prog 19 #[.pointer (some ⟨ga, 0, none⟩), .int .i64 d] w fun e w' => e = .returned (.int .i64 (if noDisk a d then 1 else 0)) ∧ Step w w' S (Pa ga sv gs (areplaced a d) w') := by
  unfold areplaced
  by_cases hn : noDisk a d
  · rw [if_pos hn, if_pos hn]
    have K2 := Lib.hid (fun v => on_no d v h hn)
    have H := Lib.hid h
    clear hn h
    go_enter Try.func19, Try.ntmps19
    go_wp2_with fail
    refine (K2.out _).mono ?_
    rintro e w1 ⟨rfl, rfl⟩
    go_wp2_with fail
    go_ret
    exact ⟨rfl, Step.same (Pa.res _ _ _ _) H.out (Fr.refl _ _)⟩
  rw [if_neg hn, if_neg hn]
  have K2 := Lib.hid (on_replace d h hn)
  clear hn h
  go_enter Try.func19, Try.ntmps19
  go_wp2_with fail
  refine K2.out.mono ?_
  rintro e w1 ⟨rfl, hs⟩
  have HS := Lib.hid hs
  clear hs
  go_wp2_with fail
  go_ret
  exact ⟨rfl, HS.out⟩

set_option maxRecDepth 100000 in
theorem acorrupt_nil (d n : Int) (s : ByteArray) (w : World) : Calls Try.prog 20 #[.pointer none, .int .i64 d, .int .i64 n, .string s] w fun e w' => e = .returned (.int .i64 1) ∧ Below w.heap.size w w' := by
  have K2 := Lib.hid (fun v w => on_nil d v w)
  go_enter Try.func20, Try.ntmps20
  go_wp2_with fail
  refine (K2.out _ _).mono ?_
  rintro e w1 ⟨rfl, rfl⟩
  go_wp2_with fail
  go_ret
  exact ⟨rfl, ((Below.refl _ w).alloc (Nat.le_refl _) _).alloc (by simp) _⟩
def acorruptE (a : Arr) (d n : Int) (l : Nat) : Int := if noDisk a d then 1 else checkE (dk a d) n l
def acorrupted (a : Arr) (d n : Int) (s : ByteArray) : Arr := if noDisk a d then a else withDk a d (corrupted (dk a d) n s)
set_option maxRecDepth 100000 in
set_option maxHeartbeats 2000000 in
theorem acorrupt_at {ga : Nat} {sv : Value} {gs : List Nat} {a : Arr} {w : World} (d n : Int) (s : ByteArray) (hmany : (dk a d).wait.length ≤ 1000000) (S : Nat → Prop) (h : Pa ga sv gs a w S) :
    Calls Try.prog 20 #[.pointer (some ⟨ga, 0, none⟩), .int .i64 d, .int .i64 n, .string s] w fun e w' => e = .returned (.int .i64 (acorruptE a d n s.size)) ∧ Step w w' S (Pa ga sv gs (acorrupted a d n s) w') := by
  have h0 : Step w ((w.alloc (.cells #[.int .i64 n] 3)).alloc (.cells #[.string s] 9)) S (Pa ga sv gs a ((w.alloc (.cells #[.int .i64 n] 3)).alloc (.cells #[.string s] 9))) := Step.same (Pa.res _ _ _ _) h (((Fr.refl _ w).alloc _).alloc _)
  have b1 : ((w.alloc (.cells #[.int .i64 n] 3)).alloc (.cells #[.string s] 9)).cell? ⟨w.heap.size, 0, none⟩ = some (.int .i64 n) := ((Boxed.new w 3 (.int .i64 n)).alloc _).cell
  have b2 : ((w.alloc (.cells #[.int .i64 n] 3)).alloc (.cells #[.string s] 9)).cell? ⟨w.heap.size + 1, 0, none⟩ = some (.string s) := by
    have := (Boxed.new (w.alloc (.cells #[.int .i64 n] 3)) 9 (.string s)).cell
    rwa [World.size_alloc] at this
  have hp : Pa ga sv gs a ((w.alloc (.cells #[.int .i64 n] 3)).alloc (.cells #[.string s] 9)) S := (Pa.res _ _ _ _).frame h ((((Fr.refl fresh w).alloc _).alloc _)) (fun _ _ h => h)
  unfold acorrupted acorruptE
  have K0 := Lib.hid h0
  by_cases hn : noDisk a d
  · rw [if_pos hn, if_pos hn]
    have K2 := Lib.hid (fun v => on_no d v hp hn)
    clear hn h h0 hp b1 b2
    go_enter Try.func20, Try.ntmps20
    go_wp2_with fail
    refine (K2.out _).mono ?_
    rintro e w1 ⟨rfl, rfl⟩
    go_wp2_with fail
    go_ret
    exact ⟨rfl, K0.out⟩
  rw [if_neg hn, if_neg hn]
  have K2 := Lib.hid (on_corrupt d n s b1 b2 hp hn hmany)
  clear hn h h0 hp b1 b2
  go_enter Try.func20, Try.ntmps20
  go_wp2_with fail
  refine K2.out.mono ?_
  rintro e w1 ⟨rfl, hs⟩
  have HS := Lib.hid hs
  clear hs
  go_wp2_with fail
  go_ret
  obtain ⟨S', hA, hf, hg⟩ := HS.out
  refine ⟨rfl, S', hA, (((Fr.refl S w).alloc _).alloc _).trans hf, fun k hk => (hg k hk).imp id (fun e => ?_)⟩
  simp at e
  omega

end Go.Proofs.Ytpmhjagmgjolmaa.Dk
