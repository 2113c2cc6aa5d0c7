/- seedcornref24.fits: whether an instruction may be. -/
import Derived.Test.YtocnkjhicbmmoaaN7
import Derived.Test.YtocnkjhicbmmoaaQ1
namespace Go.Proofs.Ytocnkjhicbmmoaa.Q
open Go.RowKit Go.Proofs.YtocnkjhicbmmoaaW.PrintWords Go.Proofs.YtocnkjhicbmmoaaW.PrintLast
attribute [local go_sem high] eqA44
set_option linter.unusedVariables false
set_option linter.unusedSimpArgs false
def fitsB (op d a b k base size n f regs words : Int) : Bool :=
  if op = 1 then (isB regs d && ((a == 0) && ((b == 0) && ((k == 0) && ((base == 0) && (size == 0))))))
  else if op = 2 then (isB regs d && (isB regs a && ((b == 0) && ((k == 0) && ((base == 0) && ((size == 0) && (n == 0)))))))
  else if op = 3 then (isB regs d && (isB regs a && (isB regs b && (decide (4 ≤ k) && (decide (k ≤ 15) && ((base == 0) && ((size == 0) && (n == 0))))))))
  else if op = 4 then (isB regs d && (isB words base && ((a == 0) && ((b == 0) && ((k == 0) && ((size == 0) && (n == 0)))))))
  else if op = 5 then (isB regs a && (isB words base && ((d == 0) && ((b == 0) && ((k == 0) && ((size == 0) && (n == 0)))))))
  else if op = 6 then (isB regs d && (isB regs a && (decide (1 ≤ size) && (decide (size ≤ 4096) && (decide (0 ≤ base) && (decide (base ≤ words - size) && ((b == 0) && ((k == 0) && (n == 0)))))))))
  else if op = 7 then (isB regs a && (isB regs b && (decide (1 ≤ size) && (decide (size ≤ 4096) && (decide (0 ≤ base) && (decide (base ≤ words - size) && ((d == 0) && ((k == 0) && (n == 0)))))))))
  else if op = 8 then (isB regs d && ((a == 0) && ((b == 0) && ((k == 0) && ((base == 0) && ((size == 0) && (n == 0)))))))
  else if op = 9 then (isB regs a && ((d == 0) && ((b == 0) && ((k == 0) && ((base == 0) && ((size == 0) && (n == 0)))))))
  else if op = 10 then (isB f base && ((d == 0) && ((a == 0) && ((b == 0) && ((k == 0) && ((size == 0) && (n == 0)))))))
  else false

set_option maxHeartbeats 8000000 in
set_option maxRecDepth 100000 in
theorem fits_1 (d a b k base size n f regs words : Int) (w : World) (hw0 : 0 ≤ words) (hw1 : words ≤ 1048576) (q : Bool) (hq : q = (isB regs d && ((a == 0) && ((b == 0) && ((k == 0) && ((base == 0) && (size == 0))))))) :
    Calls Try.prog 81 #[.agg #[.int .i64 1, .int .i64 d, .int .i64 a, .int .i64 b, .int .i64 k, .int .i64 base, .int .i64 size, .int .u32 n], .int .i64 f, .int .i64 regs, .int .i64 words] w fun e w' => e = .returned (.bool q) ∧ Below w.heap.size w w' := by
  have HQ := Aside0.mk hq
  clear hq
  have HS := Aside0.mk (show seedcornref24_Sets.f 1 d a b k base size n = some d by simp [seedcornref24_Sets.f])
  have HU := Aside0.mk (show seedcornref24_Uses.f 1 1 d a b k base size n = some [] by simp [seedcornref24_Uses.f, seedcornref24_Uses.j0])
  have F0 := Aside0.mk (FB.start w 1 d a b k base size n)
  cases h1 : isB regs d with
  | false =>
    have H2 := Aside0.mk (show seedcornref24_within.f d regs = some false by rw [within_is, h1])
    have E3 := Aside0.mk h1
    clear h1
    by_cases hd0 : 0 ≤ d
    · skip
      go_enter Try.func81, Try.ntmps81
      go_wp2_with fail
      with_reducible refine (seedcornref24_Sets.calls _ _ _ _ _ _ _ _ d _ HS.out).mono ?_
      rintro e ws ⟨rfl, hb⟩
      have F1 := Aside0.mk (F0.out.move hb)
      clear hb F0
      obtain ⟨x0, x1, x2, x3, x4, x5, x6, x7⟩ := F1.out.cells
      obtain ⟨y0, y1, y2, y3, y4, y5, y6, y7⟩ := F1.out.want
      obtain ⟨f1, f2, f3, f4, f5, f6, f7⟩ := F1.out.free
      go_wp2_with fail
      with_reducible refine (seedcornref24_within.calls d regs false _ H2.out).mono ?_
      rintro e w4 ⟨rfl, hd5⟩
      obtain ⟨kk6, rfl⟩ := hd5.out
      clear hd5
      go_wp2
      go_ret
      refine ⟨?_, ?_⟩
      · first | (simp [HQ.out, E3.out]; done) | rfl
      · repeat (first | exact F1.out.low | refine below_set ?_ (by omega) | refine below_alloc ?_ _ | refine pw_below_drewN ?_ _ | refine below_drew1 ?_)
    · have hd1 : d < 0 := by omega
      clear hd0
      have hd2 : decide (0 ≤ d) = false := by simp; omega
      go_enter Try.func81, Try.ntmps81
      go_wp2_with fail
      with_reducible refine (seedcornref24_Sets.calls _ _ _ _ _ _ _ _ d _ HS.out).mono ?_
      rintro e ws ⟨rfl, hb⟩
      have F1 := Aside0.mk (F0.out.move hb)
      clear hb F0
      obtain ⟨x0, x1, x2, x3, x4, x5, x6, x7⟩ := F1.out.cells
      obtain ⟨y0, y1, y2, y3, y4, y5, y6, y7⟩ := F1.out.want
      obtain ⟨f1, f2, f3, f4, f5, f6, f7⟩ := F1.out.free
      go_wp2_with fail
      with_reducible refine (seedcornref24_within.calls d regs false _ H2.out).mono ?_
      rintro e w7 ⟨rfl, hd8⟩
      obtain ⟨kk9, rfl⟩ := hd8.out
      clear hd8
      go_wp2
      go_ret
      refine ⟨?_, ?_⟩
      · first | (simp [HQ.out, E3.out]; done) | rfl
      · repeat (first | exact F1.out.low | refine below_set ?_ (by omega) | refine below_alloc ?_ _ | refine pw_below_drewN ?_ _ | refine below_drew1 ?_)
  | true =>
    have H2 := Aside0.mk (show seedcornref24_within.f d regs = some true by rw [within_is, h1])
    have E3 := Aside0.mk h1
    clear h1
    have hd0 : 0 ≤ d := by have g := E3.out; simp [isB] at g; omega
    go_enter Try.func81, Try.ntmps81
    go_wp2_with fail
    with_reducible refine (seedcornref24_Sets.calls _ _ _ _ _ _ _ _ d _ HS.out).mono ?_
    rintro e ws ⟨rfl, hb⟩
    have F1 := Aside0.mk (F0.out.move hb)
    clear hb F0
    obtain ⟨x0, x1, x2, x3, x4, x5, x6, x7⟩ := F1.out.cells
    obtain ⟨y0, y1, y2, y3, y4, y5, y6, y7⟩ := F1.out.want
    obtain ⟨f1, f2, f3, f4, f5, f6, f7⟩ := F1.out.free
    go_wp2_with fail
    with_reducible refine (seedcornref24_within.calls d regs true _ H2.out).mono ?_
    rintro e w10 ⟨rfl, hd11⟩
    obtain ⟨kk12, rfl⟩ := hd11.out
    clear hd11
    go_wp2_with fail
    with_reducible refine (seedcornref24_Uses.calls 1 _ _ _ _ _ _ _ _ [] _ HU.out).mono ?_
    rintro e w2 ⟨v0, rfl, hR, hb2⟩
    have F2 : Aside0 (FB w w2 1 d a b k base size n d 0 0 0 0 0 0) := by refine ⟨FB.move ?_ hb2⟩; repeat (first | exact F1.out | (with_reducible refine FB.drewN ?_ _) | (with_reducible refine FB.drew ?_) | (with_reducible refine FB.set1 (o1 := 0) ?_ _))
    clear x0 x1 x2 x3 x4 x5 x6 x7 y0 y1 y2 y3 y4 y5 y6 y7 f1 f2 f3 f4 f5 f6 f7 F1 hb2
    obtain ⟨x0, x1, x2, x3, x4, x5, x6, x7⟩ := F2.out.cells
    obtain ⟨y0, y1, y2, y3, y4, y5, y6, y7⟩ := F2.out.want
    obtain ⟨f1, f2, f3, f4, f5, f6, f7⟩ := F2.out.free
    obtain ⟨Au, cu, rfl, hcu, hCu⟩ := Kd.R_reads hR
    clear hR hCu
    go_wp2_with fail
    refine wp_loop_rounds 1 ?_
    rw [rounds_succ]
    go_wp2
    repeat (go_quiet (fail); try go_wp2)
    go_ret
    refine ⟨?_, ?_⟩
    · first | (simp [HQ.out, E3.out]; done) | rfl
    · repeat (first | exact F2.out.low | refine below_set ?_ (by omega) | refine below_alloc ?_ _ | refine pw_below_drewN ?_ _ | refine below_drew1 ?_)

set_option maxHeartbeats 8000000 in
set_option maxRecDepth 100000 in
theorem fits_2 (d a b k base size n f regs words : Int) (w : World) (hw0 : 0 ≤ words) (hw1 : words ≤ 1048576) (q : Bool) (hq : q = (isB regs d && (isB regs a && ((b == 0) && ((k == 0) && ((base == 0) && ((size == 0) && (n == 0)))))))) :
    Calls Try.prog 81 #[.agg #[.int .i64 2, .int .i64 d, .int .i64 a, .int .i64 b, .int .i64 k, .int .i64 base, .int .i64 size, .int .u32 n], .int .i64 f, .int .i64 regs, .int .i64 words] w fun e w' => e = .returned (.bool q) ∧ Below w.heap.size w w' := by
  have HQ := Aside0.mk hq
  clear hq
  have HS := Aside0.mk (show seedcornref24_Sets.f 2 d a b k base size n = some d by simp [seedcornref24_Sets.f])
  have HU := Aside0.mk (show seedcornref24_Uses.f 1 2 d a b k base size n = some [a] by simp [seedcornref24_Uses.f, seedcornref24_Uses.j0])
  have F0 := Aside0.mk (FB.start w 2 d a b k base size n)
  cases h13 : isB regs d with
  | false =>
    have H14 := Aside0.mk (show seedcornref24_within.f d regs = some false by rw [within_is, h13])
    have E15 := Aside0.mk h13
    clear h13
    by_cases hd0 : 0 ≤ d
    · skip
      go_enter Try.func81, Try.ntmps81
      go_wp2_with fail
      with_reducible refine (seedcornref24_Sets.calls _ _ _ _ _ _ _ _ d _ HS.out).mono ?_
      rintro e ws ⟨rfl, hb⟩
      have F1 := Aside0.mk (F0.out.move hb)
      clear hb F0
      obtain ⟨x0, x1, x2, x3, x4, x5, x6, x7⟩ := F1.out.cells
      obtain ⟨y0, y1, y2, y3, y4, y5, y6, y7⟩ := F1.out.want
      obtain ⟨f1, f2, f3, f4, f5, f6, f7⟩ := F1.out.free
      go_wp2_with fail
      with_reducible refine (seedcornref24_within.calls d regs false _ H14.out).mono ?_
      rintro e w16 ⟨rfl, hd17⟩
      obtain ⟨kk18, rfl⟩ := hd17.out
      clear hd17
      go_wp2
      go_ret
      refine ⟨?_, ?_⟩
      · first | (simp [HQ.out, E15.out]; done) | rfl
      · repeat (first | exact F1.out.low | refine below_set ?_ (by omega) | refine below_alloc ?_ _ | refine pw_below_drewN ?_ _ | refine below_drew1 ?_)
    · have hd1 : d < 0 := by omega
      clear hd0
      have hd2 : decide (0 ≤ d) = false := by simp; omega
      go_enter Try.func81, Try.ntmps81
      go_wp2_with fail
      with_reducible refine (seedcornref24_Sets.calls _ _ _ _ _ _ _ _ d _ HS.out).mono ?_
      rintro e ws ⟨rfl, hb⟩
      have F1 := Aside0.mk (F0.out.move hb)
      clear hb F0
      obtain ⟨x0, x1, x2, x3, x4, x5, x6, x7⟩ := F1.out.cells
      obtain ⟨y0, y1, y2, y3, y4, y5, y6, y7⟩ := F1.out.want
      obtain ⟨f1, f2, f3, f4, f5, f6, f7⟩ := F1.out.free
      go_wp2_with fail
      with_reducible refine (seedcornref24_within.calls d regs false _ H14.out).mono ?_
      rintro e w19 ⟨rfl, hd20⟩
      obtain ⟨kk21, rfl⟩ := hd20.out
      clear hd20
      go_wp2
      go_ret
      refine ⟨?_, ?_⟩
      · first | (simp [HQ.out, E15.out]; done) | rfl
      · repeat (first | exact F1.out.low | refine below_set ?_ (by omega) | refine below_alloc ?_ _ | refine pw_below_drewN ?_ _ | refine below_drew1 ?_)
  | true =>
    have H14 := Aside0.mk (show seedcornref24_within.f d regs = some true by rw [within_is, h13])
    have E15 := Aside0.mk h13
    clear h13
    have hd0 : 0 ≤ d := by have g := E15.out; simp [isB] at g; omega
    go_enter Try.func81, Try.ntmps81
    go_wp2_with fail
    with_reducible refine (seedcornref24_Sets.calls _ _ _ _ _ _ _ _ d _ HS.out).mono ?_
    rintro e ws ⟨rfl, hb⟩
    have F1 := Aside0.mk (F0.out.move hb)
    clear hb F0
    obtain ⟨x0, x1, x2, x3, x4, x5, x6, x7⟩ := F1.out.cells
    obtain ⟨y0, y1, y2, y3, y4, y5, y6, y7⟩ := F1.out.want
    obtain ⟨f1, f2, f3, f4, f5, f6, f7⟩ := F1.out.free
    go_wp2_with fail
    with_reducible refine (seedcornref24_within.calls d regs true _ H14.out).mono ?_
    rintro e w22 ⟨rfl, hd23⟩
    obtain ⟨kk24, rfl⟩ := hd23.out
    clear hd23
    go_wp2_with fail
    with_reducible refine (seedcornref24_Uses.calls 1 _ _ _ _ _ _ _ _ [a] _ HU.out).mono ?_
    rintro e w2 ⟨v0, rfl, hR, hb2⟩
    have F2 : Aside0 (FB w w2 2 d a b k base size n d 0 0 0 0 0 0) := by refine ⟨FB.move ?_ hb2⟩; repeat (first | exact F1.out | (with_reducible refine FB.drewN ?_ _) | (with_reducible refine FB.drew ?_) | (with_reducible refine FB.set1 (o1 := 0) ?_ _))
    clear x0 x1 x2 x3 x4 x5 x6 x7 y0 y1 y2 y3 y4 y5 y6 y7 f1 f2 f3 f4 f5 f6 f7 F1 hb2
    obtain ⟨x0, x1, x2, x3, x4, x5, x6, x7⟩ := F2.out.cells
    obtain ⟨y0, y1, y2, y3, y4, y5, y6, y7⟩ := F2.out.want
    obtain ⟨f1, f2, f3, f4, f5, f6, f7⟩ := F2.out.free
    obtain ⟨Au, cu, rfl, hcu, hCu⟩ := Kd.R_reads hR
    obtain ⟨ad, rfl, u0⟩ := Kd.at_int hCu 0 (by omega) (by simp)
    have U0 : w2.cell? ad = some (.int .i64 a) := by simpa [rd, Addr.add] using u0
    clear hR hCu u0
    go_wp2_with fail
    refine wp_loop_rounds 2 ?_
    rw [rounds_succ]
    go_wp2_with fail
    cases h25 : isB regs a with
    | false =>
      have H26 := Aside0.mk (show seedcornref24_within.f a regs = some false by rw [within_is, h25])
      have E27 := Aside0.mk h25
      clear h25
      with_reducible refine (seedcornref24_within.calls a regs false _ H26.out).mono ?_
      rintro e w28 ⟨rfl, hd29⟩
      obtain ⟨kk30, rfl⟩ := hd29.out
      clear hd29
      go_wp2
      go_ret
      refine ⟨?_, ?_⟩
      · first | (simp [HQ.out, E15.out, E27.out]; done) | rfl
      · repeat (first | exact F2.out.low | refine below_set ?_ (by omega) | refine below_alloc ?_ _ | refine pw_below_drewN ?_ _ | refine below_drew1 ?_)
    | true =>
      have H26 := Aside0.mk (show seedcornref24_within.f a regs = some true by rw [within_is, h25])
      have E27 := Aside0.mk h25
      clear h25
      with_reducible refine (seedcornref24_within.calls a regs true _ H26.out).mono ?_
      rintro e w31 ⟨rfl, hd32⟩
      obtain ⟨kk33, rfl⟩ := hd32.out
      clear hd32
      go_wp2
      rw [rounds_succ]
      go_wp2
      repeat (go_quiet (fail); try go_wp2)
      go_ret
      refine ⟨?_, ?_⟩
      · first | (simp [HQ.out, E15.out, E27.out]; done) | rfl
      · repeat (first | exact F2.out.low | refine below_set ?_ (by omega) | refine below_alloc ?_ _ | refine pw_below_drewN ?_ _ | refine below_drew1 ?_)

set_option maxHeartbeats 8000000 in
set_option maxRecDepth 100000 in
theorem fits_3 (d a b k base size n f regs words : Int) (w : World) (hw0 : 0 ≤ words) (hw1 : words ≤ 1048576) (q : Bool) (hq : q = (isB regs d && (isB regs a && (isB regs b && (decide (4 ≤ k) && (decide (k ≤ 15) && ((base == 0) && ((size == 0) && (n == 0))))))))) :
    Calls Try.prog 81 #[.agg #[.int .i64 3, .int .i64 d, .int .i64 a, .int .i64 b, .int .i64 k, .int .i64 base, .int .i64 size, .int .u32 n], .int .i64 f, .int .i64 regs, .int .i64 words] w fun e w' => e = .returned (.bool q) ∧ Below w.heap.size w w' := by
  have HQ := Aside0.mk hq
  clear hq
  have HS := Aside0.mk (show seedcornref24_Sets.f 3 d a b k base size n = some d by simp [seedcornref24_Sets.f])
  have HU := Aside0.mk (show seedcornref24_Uses.f 1 3 d a b k base size n = some [a, b] by simp [seedcornref24_Uses.f, seedcornref24_Uses.j0])
  have F0 := Aside0.mk (FB.start w 3 d a b k base size n)
  cases h34 : isB regs d with
  | false =>
    have H35 := Aside0.mk (show seedcornref24_within.f d regs = some false by rw [within_is, h34])
    have E36 := Aside0.mk h34
    clear h34
    by_cases hd0 : 0 ≤ d
    · skip
      go_enter Try.func81, Try.ntmps81
      go_wp2_with fail
      with_reducible refine (seedcornref24_Sets.calls _ _ _ _ _ _ _ _ d _ HS.out).mono ?_
      rintro e ws ⟨rfl, hb⟩
      have F1 := Aside0.mk (F0.out.move hb)
      clear hb F0
      obtain ⟨x0, x1, x2, x3, x4, x5, x6, x7⟩ := F1.out.cells
      obtain ⟨y0, y1, y2, y3, y4, y5, y6, y7⟩ := F1.out.want
      obtain ⟨f1, f2, f3, f4, f5, f6, f7⟩ := F1.out.free
      go_wp2_with fail
      with_reducible refine (seedcornref24_within.calls d regs false _ H35.out).mono ?_
      rintro e w37 ⟨rfl, hd38⟩
      obtain ⟨kk39, rfl⟩ := hd38.out
      clear hd38
      go_wp2
      go_ret
      refine ⟨?_, ?_⟩
      · first | (simp [HQ.out, E36.out]; done) | rfl
      · repeat (first | exact F1.out.low | refine below_set ?_ (by omega) | refine below_alloc ?_ _ | refine pw_below_drewN ?_ _ | refine below_drew1 ?_)
    · have hd1 : d < 0 := by omega
      clear hd0
      have hd2 : decide (0 ≤ d) = false := by simp; omega
      go_enter Try.func81, Try.ntmps81
      go_wp2_with fail
      with_reducible refine (seedcornref24_Sets.calls _ _ _ _ _ _ _ _ d _ HS.out).mono ?_
      rintro e ws ⟨rfl, hb⟩
      have F1 := Aside0.mk (F0.out.move hb)
      clear hb F0
      obtain ⟨x0, x1, x2, x3, x4, x5, x6, x7⟩ := F1.out.cells
      obtain ⟨y0, y1, y2, y3, y4, y5, y6, y7⟩ := F1.out.want
      obtain ⟨f1, f2, f3, f4, f5, f6, f7⟩ := F1.out.free
      go_wp2_with fail
      with_reducible refine (seedcornref24_within.calls d regs false _ H35.out).mono ?_
      rintro e w40 ⟨rfl, hd41⟩
      obtain ⟨kk42, rfl⟩ := hd41.out
      clear hd41
      go_wp2
      go_ret
      refine ⟨?_, ?_⟩
      · first | (simp [HQ.out, E36.out]; done) | rfl
      · repeat (first | exact F1.out.low | refine below_set ?_ (by omega) | refine below_alloc ?_ _ | refine pw_below_drewN ?_ _ | refine below_drew1 ?_)
  | true =>
    have H35 := Aside0.mk (show seedcornref24_within.f d regs = some true by rw [within_is, h34])
    have E36 := Aside0.mk h34
    clear h34
    have hd0 : 0 ≤ d := by have g := E36.out; simp [isB] at g; omega
    go_enter Try.func81, Try.ntmps81
    go_wp2_with fail
    with_reducible refine (seedcornref24_Sets.calls _ _ _ _ _ _ _ _ d _ HS.out).mono ?_
    rintro e ws ⟨rfl, hb⟩
    have F1 := Aside0.mk (F0.out.move hb)
    clear hb F0
    obtain ⟨x0, x1, x2, x3, x4, x5, x6, x7⟩ := F1.out.cells
    obtain ⟨y0, y1, y2, y3, y4, y5, y6, y7⟩ := F1.out.want
    obtain ⟨f1, f2, f3, f4, f5, f6, f7⟩ := F1.out.free
    go_wp2_with fail
    with_reducible refine (seedcornref24_within.calls d regs true _ H35.out).mono ?_
    rintro e w43 ⟨rfl, hd44⟩
    obtain ⟨kk45, rfl⟩ := hd44.out
    clear hd44
    go_wp2_with fail
    with_reducible refine (seedcornref24_Uses.calls 1 _ _ _ _ _ _ _ _ [a, b] _ HU.out).mono ?_
    rintro e w2 ⟨v0, rfl, hR, hb2⟩
    have F2 : Aside0 (FB w w2 3 d a b k base size n d 0 0 0 0 0 0) := by refine ⟨FB.move ?_ hb2⟩; repeat (first | exact F1.out | (with_reducible refine FB.drewN ?_ _) | (with_reducible refine FB.drew ?_) | (with_reducible refine FB.set1 (o1 := 0) ?_ _))
    clear x0 x1 x2 x3 x4 x5 x6 x7 y0 y1 y2 y3 y4 y5 y6 y7 f1 f2 f3 f4 f5 f6 f7 F1 hb2
    obtain ⟨x0, x1, x2, x3, x4, x5, x6, x7⟩ := F2.out.cells
    obtain ⟨y0, y1, y2, y3, y4, y5, y6, y7⟩ := F2.out.want
    obtain ⟨f1, f2, f3, f4, f5, f6, f7⟩ := F2.out.free
    obtain ⟨Au, cu, rfl, hcu, hCu⟩ := Kd.R_reads hR
    obtain ⟨ad, rfl, u0⟩ := Kd.at_int hCu 0 (by omega) (by simp)
    have U0 : w2.cell? ad = some (.int .i64 a) := by simpa [rd, Addr.add] using u0
    obtain ⟨ad', he, u1⟩ := Kd.at_int hCu 1 (by omega) (by simp)
    injection he with he
    subst he
    have U1 : w2.cell? (ad.add 1) = some (.int .i64 b) := by simpa [rd] using u1
    have U2 : w2.cell? ⟨ad.block, ad.off + 1, none⟩ = some (.int .i64 b) := by simpa [Addr.add] using U1
    clear u1
    clear hR hCu u0
    go_wp2_with fail
    refine wp_loop_rounds 3 ?_
    rw [rounds_succ]
    go_wp2_with fail
    cases h46 : isB regs a with
    | false =>
      have H47 := Aside0.mk (show seedcornref24_within.f a regs = some false by rw [within_is, h46])
      have E48 := Aside0.mk h46
      clear h46
      with_reducible refine (seedcornref24_within.calls a regs false _ H47.out).mono ?_
      rintro e w49 ⟨rfl, hd50⟩
      obtain ⟨kk51, rfl⟩ := hd50.out
      clear hd50
      go_wp2
      go_ret
      refine ⟨?_, ?_⟩
      · first | (simp [HQ.out, E36.out, E48.out]; done) | rfl
      · repeat (first | exact F2.out.low | refine below_set ?_ (by omega) | refine below_alloc ?_ _ | refine pw_below_drewN ?_ _ | refine below_drew1 ?_)
    | true =>
      have H47 := Aside0.mk (show seedcornref24_within.f a regs = some true by rw [within_is, h46])
      have E48 := Aside0.mk h46
      clear h46
      with_reducible refine (seedcornref24_within.calls a regs true _ H47.out).mono ?_
      rintro e w52 ⟨rfl, hd53⟩
      obtain ⟨kk54, rfl⟩ := hd53.out
      clear hd53
      go_wp2
      rw [rounds_succ]
      go_wp2_with fail
      cases h55 : isB regs b with
      | false =>
        have H56 := Aside0.mk (show seedcornref24_within.f b regs = some false by rw [within_is, h55])
        have E57 := Aside0.mk h55
        clear h55
        with_reducible refine (seedcornref24_within.calls b regs false _ H56.out).mono ?_
        rintro e w58 ⟨rfl, hd59⟩
        obtain ⟨kk60, rfl⟩ := hd59.out
        clear hd59
        go_wp2
        go_ret
        refine ⟨?_, ?_⟩
        · first | (simp [HQ.out, E36.out, E48.out, E57.out]; done) | rfl
        · repeat (first | exact F2.out.low | refine below_set ?_ (by omega) | refine below_alloc ?_ _ | refine pw_below_drewN ?_ _ | refine below_drew1 ?_)
      | true =>
        have H56 := Aside0.mk (show seedcornref24_within.f b regs = some true by rw [within_is, h55])
        have E57 := Aside0.mk h55
        clear h55
        with_reducible refine (seedcornref24_within.calls b regs true _ H56.out).mono ?_
        rintro e w61 ⟨rfl, hd62⟩
        obtain ⟨kk63, rfl⟩ := hd62.out
        clear hd62
        go_wp2
        rw [rounds_succ]
        cases c64 : decide (4 ≤ k) with
        | false =>
          have dc64 : decide (k < 4) = true := by simp at c64 ⊢; omega
          have C65 := Aside0.mk c64
          clear c64
          go_wp2
          repeat (go_quiet (fail); try go_wp2)
          go_ret
          refine ⟨?_, ?_⟩
          · first | (simp [HQ.out, E36.out, E48.out, E57.out, C65.out]; done) | rfl
          · repeat (first | exact F2.out.low | refine below_set ?_ (by omega) | refine below_alloc ?_ _ | refine pw_below_drewN ?_ _ | refine below_drew1 ?_)
        | true =>
          have dc64 : decide (k < 4) = false := by simp at c64 ⊢; omega
          have C65 := Aside0.mk c64
          clear c64
          cases c66 : decide (k ≤ 15) with
          | false =>
            have dc66 : decide (15 < k) = true := by simp at c66 ⊢; omega
            have C67 := Aside0.mk c66
            clear c66
            go_wp2
            repeat (go_quiet (fail); try go_wp2)
            go_ret
            refine ⟨?_, ?_⟩
            · first | (simp [HQ.out, E36.out, E48.out, E57.out, C65.out, C67.out]; done) | rfl
            · repeat (first | exact F2.out.low | refine below_set ?_ (by omega) | refine below_alloc ?_ _ | refine pw_below_drewN ?_ _ | refine below_drew1 ?_)
          | true =>
            have dc66 : decide (15 < k) = false := by simp at c66 ⊢; omega
            have C67 := Aside0.mk c66
            clear c66
            go_wp2
            repeat (go_quiet (fail); try go_wp2)
            go_ret
            refine ⟨?_, ?_⟩
            · first | (simp [HQ.out, E36.out, E48.out, E57.out, C65.out, C67.out]; done) | rfl
            · repeat (first | exact F2.out.low | refine below_set ?_ (by omega) | refine below_alloc ?_ _ | refine pw_below_drewN ?_ _ | refine below_drew1 ?_)

set_option maxHeartbeats 8000000 in
set_option maxRecDepth 100000 in
theorem fits_4 (d a b k base size n f regs words : Int) (w : World) (hw0 : 0 ≤ words) (hw1 : words ≤ 1048576) (q : Bool) (hq : q = (isB regs d && (isB words base && ((a == 0) && ((b == 0) && ((k == 0) && ((size == 0) && (n == 0)))))))) :
    Calls Try.prog 81 #[.agg #[.int .i64 4, .int .i64 d, .int .i64 a, .int .i64 b, .int .i64 k, .int .i64 base, .int .i64 size, .int .u32 n], .int .i64 f, .int .i64 regs, .int .i64 words] w fun e w' => e = .returned (.bool q) ∧ Below w.heap.size w w' := by
  have HQ := Aside0.mk hq
  clear hq
  have HS := Aside0.mk (show seedcornref24_Sets.f 4 d a b k base size n = some d by simp [seedcornref24_Sets.f])
  have HU := Aside0.mk (show seedcornref24_Uses.f 1 4 d a b k base size n = some [] by simp [seedcornref24_Uses.f, seedcornref24_Uses.j0])
  have F0 := Aside0.mk (FB.start w 4 d a b k base size n)
  cases h68 : isB regs d with
  | false =>
    have H69 := Aside0.mk (show seedcornref24_within.f d regs = some false by rw [within_is, h68])
    have E70 := Aside0.mk h68
    clear h68
    by_cases hd0 : 0 ≤ d
    · skip
      go_enter Try.func81, Try.ntmps81
      go_wp2_with fail
      with_reducible refine (seedcornref24_Sets.calls _ _ _ _ _ _ _ _ d _ HS.out).mono ?_
      rintro e ws ⟨rfl, hb⟩
      have F1 := Aside0.mk (F0.out.move hb)
      clear hb F0
      obtain ⟨x0, x1, x2, x3, x4, x5, x6, x7⟩ := F1.out.cells
      obtain ⟨y0, y1, y2, y3, y4, y5, y6, y7⟩ := F1.out.want
      obtain ⟨f1, f2, f3, f4, f5, f6, f7⟩ := F1.out.free
      go_wp2_with fail
      with_reducible refine (seedcornref24_within.calls d regs false _ H69.out).mono ?_
      rintro e w71 ⟨rfl, hd72⟩
      obtain ⟨kk73, rfl⟩ := hd72.out
      clear hd72
      go_wp2
      go_ret
      refine ⟨?_, ?_⟩
      · first | (simp [HQ.out, E70.out]; done) | rfl
      · repeat (first | exact F1.out.low | refine below_set ?_ (by omega) | refine below_alloc ?_ _ | refine pw_below_drewN ?_ _ | refine below_drew1 ?_)
    · have hd1 : d < 0 := by omega
      clear hd0
      have hd2 : decide (0 ≤ d) = false := by simp; omega
      go_enter Try.func81, Try.ntmps81
      go_wp2_with fail
      with_reducible refine (seedcornref24_Sets.calls _ _ _ _ _ _ _ _ d _ HS.out).mono ?_
      rintro e ws ⟨rfl, hb⟩
      have F1 := Aside0.mk (F0.out.move hb)
      clear hb F0
      obtain ⟨x0, x1, x2, x3, x4, x5, x6, x7⟩ := F1.out.cells
      obtain ⟨y0, y1, y2, y3, y4, y5, y6, y7⟩ := F1.out.want
      obtain ⟨f1, f2, f3, f4, f5, f6, f7⟩ := F1.out.free
      go_wp2_with fail
      with_reducible refine (seedcornref24_within.calls d regs false _ H69.out).mono ?_
      rintro e w74 ⟨rfl, hd75⟩
      obtain ⟨kk76, rfl⟩ := hd75.out
      clear hd75
      go_wp2
      go_ret
      refine ⟨?_, ?_⟩
      · first | (simp [HQ.out, E70.out]; done) | rfl
      · repeat (first | exact F1.out.low | refine below_set ?_ (by omega) | refine below_alloc ?_ _ | refine pw_below_drewN ?_ _ | refine below_drew1 ?_)
  | true =>
    have H69 := Aside0.mk (show seedcornref24_within.f d regs = some true by rw [within_is, h68])
    have E70 := Aside0.mk h68
    clear h68
    have hd0 : 0 ≤ d := by have g := E70.out; simp [isB] at g; omega
    go_enter Try.func81, Try.ntmps81
    go_wp2_with fail
    with_reducible refine (seedcornref24_Sets.calls _ _ _ _ _ _ _ _ d _ HS.out).mono ?_
    rintro e ws ⟨rfl, hb⟩
    have F1 := Aside0.mk (F0.out.move hb)
    clear hb F0
    obtain ⟨x0, x1, x2, x3, x4, x5, x6, x7⟩ := F1.out.cells
    obtain ⟨y0, y1, y2, y3, y4, y5, y6, y7⟩ := F1.out.want
    obtain ⟨f1, f2, f3, f4, f5, f6, f7⟩ := F1.out.free
    go_wp2_with fail
    with_reducible refine (seedcornref24_within.calls d regs true _ H69.out).mono ?_
    rintro e w77 ⟨rfl, hd78⟩
    obtain ⟨kk79, rfl⟩ := hd78.out
    clear hd78
    go_wp2_with fail
    with_reducible refine (seedcornref24_Uses.calls 1 _ _ _ _ _ _ _ _ [] _ HU.out).mono ?_
    rintro e w2 ⟨v0, rfl, hR, hb2⟩
    have F2 : Aside0 (FB w w2 4 d a b k base size n d 0 0 0 0 0 0) := by refine ⟨FB.move ?_ hb2⟩; repeat (first | exact F1.out | (with_reducible refine FB.drewN ?_ _) | (with_reducible refine FB.drew ?_) | (with_reducible refine FB.set1 (o1 := 0) ?_ _))
    clear x0 x1 x2 x3 x4 x5 x6 x7 y0 y1 y2 y3 y4 y5 y6 y7 f1 f2 f3 f4 f5 f6 f7 F1 hb2
    obtain ⟨x0, x1, x2, x3, x4, x5, x6, x7⟩ := F2.out.cells
    obtain ⟨y0, y1, y2, y3, y4, y5, y6, y7⟩ := F2.out.want
    obtain ⟨f1, f2, f3, f4, f5, f6, f7⟩ := F2.out.free
    obtain ⟨Au, cu, rfl, hcu, hCu⟩ := Kd.R_reads hR
    clear hR hCu
    go_wp2_with fail
    refine wp_loop_rounds 1 ?_
    rw [rounds_succ]
    go_wp2_with fail
    cases h80 : isB words base with
    | false =>
      have H81 := Aside0.mk (show seedcornref24_within.f base words = some false by rw [within_is, h80])
      have E82 := Aside0.mk h80
      clear h80
      with_reducible refine (seedcornref24_within.calls base words false _ H81.out).mono ?_
      rintro e w83 ⟨rfl, hd84⟩
      obtain ⟨kk85, rfl⟩ := hd84.out
      clear hd84
      go_wp2
      go_ret
      refine ⟨?_, ?_⟩
      · first | (simp [HQ.out, E70.out, E82.out]; done) | rfl
      · repeat (first | exact F2.out.low | refine below_set ?_ (by omega) | refine below_alloc ?_ _ | refine pw_below_drewN ?_ _ | refine below_drew1 ?_)
    | true =>
      have H81 := Aside0.mk (show seedcornref24_within.f base words = some true by rw [within_is, h80])
      have E82 := Aside0.mk h80
      clear h80
      with_reducible refine (seedcornref24_within.calls base words true _ H81.out).mono ?_
      rintro e w86 ⟨rfl, hd87⟩
      obtain ⟨kk88, rfl⟩ := hd87.out
      clear hd87
      go_wp2
      go_ret
      refine ⟨?_, ?_⟩
      · first | (simp [HQ.out, E70.out, E82.out]; done) | rfl
      · repeat (first | exact F2.out.low | refine below_set ?_ (by omega) | refine below_alloc ?_ _ | refine pw_below_drewN ?_ _ | refine below_drew1 ?_)

set_option maxHeartbeats 8000000 in
set_option maxRecDepth 100000 in
theorem fits_5 (d a b k base size n f regs words : Int) (w : World) (hw0 : 0 ≤ words) (hw1 : words ≤ 1048576) (q : Bool) (hq : q = (isB regs a && (isB words base && ((d == 0) && ((b == 0) && ((k == 0) && ((size == 0) && (n == 0)))))))) :
    Calls Try.prog 81 #[.agg #[.int .i64 5, .int .i64 d, .int .i64 a, .int .i64 b, .int .i64 k, .int .i64 base, .int .i64 size, .int .u32 n], .int .i64 f, .int .i64 regs, .int .i64 words] w fun e w' => e = .returned (.bool q) ∧ Below w.heap.size w w' := by
  have HQ := Aside0.mk hq
  clear hq
  have HS := Aside0.mk (show seedcornref24_Sets.f 5 d a b k base size n = some (-1) by simp [seedcornref24_Sets.f])
  have HU := Aside0.mk (show seedcornref24_Uses.f 1 5 d a b k base size n = some [a] by simp [seedcornref24_Uses.f, seedcornref24_Uses.j0])
  have F0 := Aside0.mk (FB.start w 5 d a b k base size n)
  go_enter Try.func81, Try.ntmps81
  go_wp2_with fail
  with_reducible refine (seedcornref24_Sets.calls _ _ _ _ _ _ _ _ (-1) _ HS.out).mono ?_
  rintro e ws ⟨rfl, hb⟩
  have F1 := Aside0.mk (F0.out.move hb)
  clear hb F0
  obtain ⟨x0, x1, x2, x3, x4, x5, x6, x7⟩ := F1.out.cells
  obtain ⟨y0, y1, y2, y3, y4, y5, y6, y7⟩ := F1.out.want
  obtain ⟨f1, f2, f3, f4, f5, f6, f7⟩ := F1.out.free
  go_wp2_with fail
  with_reducible refine (seedcornref24_Uses.calls 1 _ _ _ _ _ _ _ _ [a] _ HU.out).mono ?_
  rintro e w2 ⟨v0, rfl, hR, hb2⟩
  have F2 : Aside0 (FB w w2 5 d a b k base size n 0 0 0 0 0 0 0) := by refine ⟨FB.move ?_ hb2⟩; repeat (first | exact F1.out | (with_reducible refine FB.drewN ?_ _) | (with_reducible refine FB.drew ?_) | (with_reducible refine FB.set1 (o1 := 0) ?_ _))
  clear x0 x1 x2 x3 x4 x5 x6 x7 y0 y1 y2 y3 y4 y5 y6 y7 f1 f2 f3 f4 f5 f6 f7 F1 hb2
  obtain ⟨x0, x1, x2, x3, x4, x5, x6, x7⟩ := F2.out.cells
  obtain ⟨y0, y1, y2, y3, y4, y5, y6, y7⟩ := F2.out.want
  obtain ⟨f1, f2, f3, f4, f5, f6, f7⟩ := F2.out.free
  obtain ⟨Au, cu, rfl, hcu, hCu⟩ := Kd.R_reads hR
  obtain ⟨ad, rfl, u0⟩ := Kd.at_int hCu 0 (by omega) (by simp)
  have U0 : w2.cell? ad = some (.int .i64 a) := by simpa [rd, Addr.add] using u0
  clear hR hCu u0
  go_wp2_with fail
  refine wp_loop_rounds 2 ?_
  rw [rounds_succ]
  go_wp2_with fail
  cases h89 : isB regs a with
  | false =>
    have H90 := Aside0.mk (show seedcornref24_within.f a regs = some false by rw [within_is, h89])
    have E91 := Aside0.mk h89
    clear h89
    with_reducible refine (seedcornref24_within.calls a regs false _ H90.out).mono ?_
    rintro e w92 ⟨rfl, hd93⟩
    obtain ⟨kk94, rfl⟩ := hd93.out
    clear hd93
    go_wp2
    go_ret
    refine ⟨?_, ?_⟩
    · first | (simp [HQ.out, E91.out]; done) | rfl
    · repeat (first | exact F2.out.low | refine below_set ?_ (by omega) | refine below_alloc ?_ _ | refine pw_below_drewN ?_ _ | refine below_drew1 ?_)
  | true =>
    have H90 := Aside0.mk (show seedcornref24_within.f a regs = some true by rw [within_is, h89])
    have E91 := Aside0.mk h89
    clear h89
    with_reducible refine (seedcornref24_within.calls a regs true _ H90.out).mono ?_
    rintro e w95 ⟨rfl, hd96⟩
    obtain ⟨kk97, rfl⟩ := hd96.out
    clear hd96
    go_wp2
    rw [rounds_succ]
    go_wp2_with fail
    cases h98 : isB words base with
    | false =>
      have H99 := Aside0.mk (show seedcornref24_within.f base words = some false by rw [within_is, h98])
      have E100 := Aside0.mk h98
      clear h98
      with_reducible refine (seedcornref24_within.calls base words false _ H99.out).mono ?_
      rintro e w101 ⟨rfl, hd102⟩
      obtain ⟨kk103, rfl⟩ := hd102.out
      clear hd102
      go_wp2
      go_ret
      refine ⟨?_, ?_⟩
      · first | (simp [HQ.out, E91.out, E100.out]; done) | rfl
      · repeat (first | exact F2.out.low | refine below_set ?_ (by omega) | refine below_alloc ?_ _ | refine pw_below_drewN ?_ _ | refine below_drew1 ?_)
    | true =>
      have H99 := Aside0.mk (show seedcornref24_within.f base words = some true by rw [within_is, h98])
      have E100 := Aside0.mk h98
      clear h98
      with_reducible refine (seedcornref24_within.calls base words true _ H99.out).mono ?_
      rintro e w104 ⟨rfl, hd105⟩
      obtain ⟨kk106, rfl⟩ := hd105.out
      clear hd105
      go_wp2
      go_ret
      refine ⟨?_, ?_⟩
      · first | (simp [HQ.out, E91.out, E100.out]; done) | rfl
      · repeat (first | exact F2.out.low | refine below_set ?_ (by omega) | refine below_alloc ?_ _ | refine pw_below_drewN ?_ _ | refine below_drew1 ?_)

set_option maxHeartbeats 8000000 in
set_option maxRecDepth 100000 in
theorem fits_6 (d a b k base size n f regs words : Int) (w : World) (hw0 : 0 ≤ words) (hw1 : words ≤ 1048576) (q : Bool) (hq : q = (isB regs d && (isB regs a && (decide (1 ≤ size) && (decide (size ≤ 4096) && (decide (0 ≤ base) && (decide (base ≤ words - size) && ((b == 0) && ((k == 0) && (n == 0)))))))))) :
    Calls Try.prog 81 #[.agg #[.int .i64 6, .int .i64 d, .int .i64 a, .int .i64 b, .int .i64 k, .int .i64 base, .int .i64 size, .int .u32 n], .int .i64 f, .int .i64 regs, .int .i64 words] w fun e w' => e = .returned (.bool q) ∧ Below w.heap.size w w' := by
  have HQ := Aside0.mk hq
  clear hq
  have HS := Aside0.mk (show seedcornref24_Sets.f 6 d a b k base size n = some d by simp [seedcornref24_Sets.f])
  have HU := Aside0.mk (show seedcornref24_Uses.f 1 6 d a b k base size n = some [a] by simp [seedcornref24_Uses.f, seedcornref24_Uses.j0])
  have F0 := Aside0.mk (FB.start w 6 d a b k base size n)
  cases h107 : isB regs d with
  | false =>
    have H108 := Aside0.mk (show seedcornref24_within.f d regs = some false by rw [within_is, h107])
    have E109 := Aside0.mk h107
    clear h107
    by_cases hd0 : 0 ≤ d
    · skip
      go_enter Try.func81, Try.ntmps81
      go_wp2_with fail
      with_reducible refine (seedcornref24_Sets.calls _ _ _ _ _ _ _ _ d _ HS.out).mono ?_
      rintro e ws ⟨rfl, hb⟩
      have F1 := Aside0.mk (F0.out.move hb)
      clear hb F0
      obtain ⟨x0, x1, x2, x3, x4, x5, x6, x7⟩ := F1.out.cells
      obtain ⟨y0, y1, y2, y3, y4, y5, y6, y7⟩ := F1.out.want
      obtain ⟨f1, f2, f3, f4, f5, f6, f7⟩ := F1.out.free
      go_wp2_with fail
      with_reducible refine (seedcornref24_within.calls d regs false _ H108.out).mono ?_
      rintro e w110 ⟨rfl, hd111⟩
      obtain ⟨kk112, rfl⟩ := hd111.out
      clear hd111
      go_wp2
      go_ret
      refine ⟨?_, ?_⟩
      · first | (simp [HQ.out, E109.out]; done) | rfl
      · repeat (first | exact F1.out.low | refine below_set ?_ (by omega) | refine below_alloc ?_ _ | refine pw_below_drewN ?_ _ | refine below_drew1 ?_)
    · have hd1 : d < 0 := by omega
      clear hd0
      have hd2 : decide (0 ≤ d) = false := by simp; omega
      go_enter Try.func81, Try.ntmps81
      go_wp2_with fail
      with_reducible refine (seedcornref24_Sets.calls _ _ _ _ _ _ _ _ d _ HS.out).mono ?_
      rintro e ws ⟨rfl, hb⟩
      have F1 := Aside0.mk (F0.out.move hb)
      clear hb F0
      obtain ⟨x0, x1, x2, x3, x4, x5, x6, x7⟩ := F1.out.cells
      obtain ⟨y0, y1, y2, y3, y4, y5, y6, y7⟩ := F1.out.want
      obtain ⟨f1, f2, f3, f4, f5, f6, f7⟩ := F1.out.free
      go_wp2_with fail
      with_reducible refine (seedcornref24_within.calls d regs false _ H108.out).mono ?_
      rintro e w113 ⟨rfl, hd114⟩
      obtain ⟨kk115, rfl⟩ := hd114.out
      clear hd114
      go_wp2
      go_ret
      refine ⟨?_, ?_⟩
      · first | (simp [HQ.out, E109.out]; done) | rfl
      · repeat (first | exact F1.out.low | refine below_set ?_ (by omega) | refine below_alloc ?_ _ | refine pw_below_drewN ?_ _ | refine below_drew1 ?_)
  | true =>
    have H108 := Aside0.mk (show seedcornref24_within.f d regs = some true by rw [within_is, h107])
    have E109 := Aside0.mk h107
    clear h107
    have hd0 : 0 ≤ d := by have g := E109.out; simp [isB] at g; omega
    go_enter Try.func81, Try.ntmps81
    go_wp2_with fail
    with_reducible refine (seedcornref24_Sets.calls _ _ _ _ _ _ _ _ d _ HS.out).mono ?_
    rintro e ws ⟨rfl, hb⟩
    have F1 := Aside0.mk (F0.out.move hb)
    clear hb F0
    obtain ⟨x0, x1, x2, x3, x4, x5, x6, x7⟩ := F1.out.cells
    obtain ⟨y0, y1, y2, y3, y4, y5, y6, y7⟩ := F1.out.want
    obtain ⟨f1, f2, f3, f4, f5, f6, f7⟩ := F1.out.free
    go_wp2_with fail
    with_reducible refine (seedcornref24_within.calls d regs true _ H108.out).mono ?_
    rintro e w116 ⟨rfl, hd117⟩
    obtain ⟨kk118, rfl⟩ := hd117.out
    clear hd117
    go_wp2_with fail
    with_reducible refine (seedcornref24_Uses.calls 1 _ _ _ _ _ _ _ _ [a] _ HU.out).mono ?_
    rintro e w2 ⟨v0, rfl, hR, hb2⟩
    have F2 : Aside0 (FB w w2 6 d a b k base size n d 0 0 0 0 0 0) := by refine ⟨FB.move ?_ hb2⟩; repeat (first | exact F1.out | (with_reducible refine FB.drewN ?_ _) | (with_reducible refine FB.drew ?_) | (with_reducible refine FB.set1 (o1 := 0) ?_ _))
    clear x0 x1 x2 x3 x4 x5 x6 x7 y0 y1 y2 y3 y4 y5 y6 y7 f1 f2 f3 f4 f5 f6 f7 F1 hb2
    obtain ⟨x0, x1, x2, x3, x4, x5, x6, x7⟩ := F2.out.cells
    obtain ⟨y0, y1, y2, y3, y4, y5, y6, y7⟩ := F2.out.want
    obtain ⟨f1, f2, f3, f4, f5, f6, f7⟩ := F2.out.free
    obtain ⟨Au, cu, rfl, hcu, hCu⟩ := Kd.R_reads hR
    obtain ⟨ad, rfl, u0⟩ := Kd.at_int hCu 0 (by omega) (by simp)
    have U0 : w2.cell? ad = some (.int .i64 a) := by simpa [rd, Addr.add] using u0
    clear hR hCu u0
    go_wp2_with fail
    refine wp_loop_rounds 2 ?_
    rw [rounds_succ]
    go_wp2_with fail
    cases h119 : isB regs a with
    | false =>
      have H120 := Aside0.mk (show seedcornref24_within.f a regs = some false by rw [within_is, h119])
      have E121 := Aside0.mk h119
      clear h119
      with_reducible refine (seedcornref24_within.calls a regs false _ H120.out).mono ?_
      rintro e w122 ⟨rfl, hd123⟩
      obtain ⟨kk124, rfl⟩ := hd123.out
      clear hd123
      go_wp2
      go_ret
      refine ⟨?_, ?_⟩
      · first | (simp [HQ.out, E109.out, E121.out]; done) | rfl
      · repeat (first | exact F2.out.low | refine below_set ?_ (by omega) | refine below_alloc ?_ _ | refine pw_below_drewN ?_ _ | refine below_drew1 ?_)
    | true =>
      have H120 := Aside0.mk (show seedcornref24_within.f a regs = some true by rw [within_is, h119])
      have E121 := Aside0.mk h119
      clear h119
      with_reducible refine (seedcornref24_within.calls a regs true _ H120.out).mono ?_
      rintro e w125 ⟨rfl, hd126⟩
      obtain ⟨kk127, rfl⟩ := hd126.out
      clear hd126
      go_wp2
      rw [rounds_succ]
      cases c128 : decide (1 ≤ size) with
      | false =>
        have dc128 : decide (size < 1) = true := by simp at c128 ⊢; omega
        have C129 := Aside0.mk c128
        clear c128
        go_wp2
        go_region
        all_goals
          go_wp2
          repeat (go_quiet (fail); try go_wp2)
          go_ret
          refine ⟨?_, ?_⟩
          · first | (simp [HQ.out, E109.out, E121.out, C129.out]; done) | rfl
          · repeat (first | exact F2.out.low | refine below_set ?_ (by omega) | refine below_alloc ?_ _ | refine pw_below_drewN ?_ _ | refine below_drew1 ?_)
      | true =>
        have dc128 : decide (size < 1) = false := by simp at c128 ⊢; omega
        have C129 := Aside0.mk c128
        clear c128
        cases c130 : decide (size ≤ 4096) with
        | false =>
          have dc130 : decide (4096 < size) = true := by simp at c130 ⊢; omega
          have C131 := Aside0.mk c130
          clear c130
          go_wp2
          go_region
          all_goals
            go_wp2
            repeat (go_quiet (fail); try go_wp2)
            go_ret
            refine ⟨?_, ?_⟩
            · first | (simp [HQ.out, E109.out, E121.out, C129.out, C131.out]; done) | rfl
            · repeat (first | exact F2.out.low | refine below_set ?_ (by omega) | refine below_alloc ?_ _ | refine pw_below_drewN ?_ _ | refine below_drew1 ?_)
        | true =>
          have dc130 : decide (4096 < size) = false := by simp at c130 ⊢; omega
          have C131 := Aside0.mk c130
          clear c130
          cases c132 : decide (0 ≤ base) with
          | false =>
            have dc132 : decide (base < 0) = true := by simp at c132 ⊢; omega
            have C133 := Aside0.mk c132
            clear c132
            go_wp2
            go_region
            all_goals
              go_wp2
              repeat (go_quiet (fail); try go_wp2)
              go_ret
              refine ⟨?_, ?_⟩
              · first | (simp [HQ.out, E109.out, E121.out, C129.out, C131.out, C133.out]; done) | rfl
              · repeat (first | exact F2.out.low | refine below_set ?_ (by omega) | refine below_alloc ?_ _ | refine pw_below_drewN ?_ _ | refine below_drew1 ?_)
          | true =>
            have dc132 : decide (base < 0) = false := by simp at c132 ⊢; omega
            have C133 := Aside0.mk c132
            clear c132
            have hwr : wrap64 (words - size) = words - size := by have g1 := C129.out; have g2 := C131.out; simp only [decide_eq_true_eq] at g1 g2; unfold wrap64; omega
            cases c134 : decide (base ≤ words - size) with
            | false =>
              have dc134 : decide (words - size < base) = true := by simp at c134 ⊢; omega
              have C135 := Aside0.mk c134
              clear c134
              go_wp2
              go_region
              all_goals
                go_wp2
                repeat (go_quiet (fail); try go_wp2)
                go_ret
                refine ⟨?_, ?_⟩
                · first | (simp [HQ.out, E109.out, E121.out, C129.out, C131.out, C133.out, C135.out]; done) | rfl
                · repeat (first | exact F2.out.low | refine below_set ?_ (by omega) | refine below_alloc ?_ _ | refine pw_below_drewN ?_ _ | refine below_drew1 ?_)
            | true =>
              have dc134 : decide (words - size < base) = false := by simp at c134 ⊢; omega
              have C135 := Aside0.mk c134
              clear c134
              go_wp2
              go_region
              all_goals
                go_wp2
                repeat (go_quiet (fail); try go_wp2)
                go_ret
                refine ⟨?_, ?_⟩
                · first | (simp [HQ.out, E109.out, E121.out, C129.out, C131.out, C133.out, C135.out]; done) | rfl
                · repeat (first | exact F2.out.low | refine below_set ?_ (by omega) | refine below_alloc ?_ _ | refine pw_below_drewN ?_ _ | refine below_drew1 ?_)

set_option maxHeartbeats 8000000 in
set_option maxRecDepth 100000 in
theorem fits_7 (d a b k base size n f regs words : Int) (w : World) (hw0 : 0 ≤ words) (hw1 : words ≤ 1048576) (q : Bool) (hq : q = (isB regs a && (isB regs b && (decide (1 ≤ size) && (decide (size ≤ 4096) && (decide (0 ≤ base) && (decide (base ≤ words - size) && ((d == 0) && ((k == 0) && (n == 0)))))))))) :
    Calls Try.prog 81 #[.agg #[.int .i64 7, .int .i64 d, .int .i64 a, .int .i64 b, .int .i64 k, .int .i64 base, .int .i64 size, .int .u32 n], .int .i64 f, .int .i64 regs, .int .i64 words] w fun e w' => e = .returned (.bool q) ∧ Below w.heap.size w w' := by
  have HQ := Aside0.mk hq
  clear hq
  have HS := Aside0.mk (show seedcornref24_Sets.f 7 d a b k base size n = some (-1) by simp [seedcornref24_Sets.f])
  have HU := Aside0.mk (show seedcornref24_Uses.f 1 7 d a b k base size n = some [a, b] by simp [seedcornref24_Uses.f, seedcornref24_Uses.j0])
  have F0 := Aside0.mk (FB.start w 7 d a b k base size n)
  go_enter Try.func81, Try.ntmps81
  go_wp2_with fail
  with_reducible refine (seedcornref24_Sets.calls _ _ _ _ _ _ _ _ (-1) _ HS.out).mono ?_
  rintro e ws ⟨rfl, hb⟩
  have F1 := Aside0.mk (F0.out.move hb)
  clear hb F0
  obtain ⟨x0, x1, x2, x3, x4, x5, x6, x7⟩ := F1.out.cells
  obtain ⟨y0, y1, y2, y3, y4, y5, y6, y7⟩ := F1.out.want
  obtain ⟨f1, f2, f3, f4, f5, f6, f7⟩ := F1.out.free
  go_wp2_with fail
  with_reducible refine (seedcornref24_Uses.calls 1 _ _ _ _ _ _ _ _ [a, b] _ HU.out).mono ?_
  rintro e w2 ⟨v0, rfl, hR, hb2⟩
  have F2 : Aside0 (FB w w2 7 d a b k base size n 0 0 0 0 0 0 0) := by refine ⟨FB.move ?_ hb2⟩; repeat (first | exact F1.out | (with_reducible refine FB.drewN ?_ _) | (with_reducible refine FB.drew ?_) | (with_reducible refine FB.set1 (o1 := 0) ?_ _))
  clear x0 x1 x2 x3 x4 x5 x6 x7 y0 y1 y2 y3 y4 y5 y6 y7 f1 f2 f3 f4 f5 f6 f7 F1 hb2
  obtain ⟨x0, x1, x2, x3, x4, x5, x6, x7⟩ := F2.out.cells
  obtain ⟨y0, y1, y2, y3, y4, y5, y6, y7⟩ := F2.out.want
  obtain ⟨f1, f2, f3, f4, f5, f6, f7⟩ := F2.out.free
  obtain ⟨Au, cu, rfl, hcu, hCu⟩ := Kd.R_reads hR
  obtain ⟨ad, rfl, u0⟩ := Kd.at_int hCu 0 (by omega) (by simp)
  have U0 : w2.cell? ad = some (.int .i64 a) := by simpa [rd, Addr.add] using u0
  obtain ⟨ad', he, u1⟩ := Kd.at_int hCu 1 (by omega) (by simp)
  injection he with he
  subst he
  have U1 : w2.cell? (ad.add 1) = some (.int .i64 b) := by simpa [rd] using u1
  have U2 : w2.cell? ⟨ad.block, ad.off + 1, none⟩ = some (.int .i64 b) := by simpa [Addr.add] using U1
  clear u1
  clear hR hCu u0
  go_wp2_with fail
  refine wp_loop_rounds 3 ?_
  rw [rounds_succ]
  go_wp2_with fail
  cases h136 : isB regs a with
  | false =>
    have H137 := Aside0.mk (show seedcornref24_within.f a regs = some false by rw [within_is, h136])
    have E138 := Aside0.mk h136
    clear h136
    with_reducible refine (seedcornref24_within.calls a regs false _ H137.out).mono ?_
    rintro e w139 ⟨rfl, hd140⟩
    obtain ⟨kk141, rfl⟩ := hd140.out
    clear hd140
    go_wp2
    go_ret
    refine ⟨?_, ?_⟩
    · first | (simp [HQ.out, E138.out]; done) | rfl
    · repeat (first | exact F2.out.low | refine below_set ?_ (by omega) | refine below_alloc ?_ _ | refine pw_below_drewN ?_ _ | refine below_drew1 ?_)
  | true =>
    have H137 := Aside0.mk (show seedcornref24_within.f a regs = some true by rw [within_is, h136])
    have E138 := Aside0.mk h136
    clear h136
    with_reducible refine (seedcornref24_within.calls a regs true _ H137.out).mono ?_
    rintro e w142 ⟨rfl, hd143⟩
    obtain ⟨kk144, rfl⟩ := hd143.out
    clear hd143
    go_wp2
    rw [rounds_succ]
    go_wp2_with fail
    cases h145 : isB regs b with
    | false =>
      have H146 := Aside0.mk (show seedcornref24_within.f b regs = some false by rw [within_is, h145])
      have E147 := Aside0.mk h145
      clear h145
      with_reducible refine (seedcornref24_within.calls b regs false _ H146.out).mono ?_
      rintro e w148 ⟨rfl, hd149⟩
      obtain ⟨kk150, rfl⟩ := hd149.out
      clear hd149
      go_wp2
      go_ret
      refine ⟨?_, ?_⟩
      · first | (simp [HQ.out, E138.out, E147.out]; done) | rfl
      · repeat (first | exact F2.out.low | refine below_set ?_ (by omega) | refine below_alloc ?_ _ | refine pw_below_drewN ?_ _ | refine below_drew1 ?_)
    | true =>
      have H146 := Aside0.mk (show seedcornref24_within.f b regs = some true by rw [within_is, h145])
      have E147 := Aside0.mk h145
      clear h145
      with_reducible refine (seedcornref24_within.calls b regs true _ H146.out).mono ?_
      rintro e w151 ⟨rfl, hd152⟩
      obtain ⟨kk153, rfl⟩ := hd152.out
      clear hd152
      go_wp2
      rw [rounds_succ]
      cases c154 : decide (1 ≤ size) with
      | false =>
        have dc154 : decide (size < 1) = true := by simp at c154 ⊢; omega
        have C155 := Aside0.mk c154
        clear c154
        go_wp2
        go_region
        all_goals
          go_wp2
          repeat (go_quiet (fail); try go_wp2)
          go_ret
          refine ⟨?_, ?_⟩
          · first | (simp [HQ.out, E138.out, E147.out, C155.out]; done) | rfl
          · repeat (first | exact F2.out.low | refine below_set ?_ (by omega) | refine below_alloc ?_ _ | refine pw_below_drewN ?_ _ | refine below_drew1 ?_)
      | true =>
        have dc154 : decide (size < 1) = false := by simp at c154 ⊢; omega
        have C155 := Aside0.mk c154
        clear c154
        cases c156 : decide (size ≤ 4096) with
        | false =>
          have dc156 : decide (4096 < size) = true := by simp at c156 ⊢; omega
          have C157 := Aside0.mk c156
          clear c156
          go_wp2
          go_region
          all_goals
            go_wp2
            repeat (go_quiet (fail); try go_wp2)
            go_ret
            refine ⟨?_, ?_⟩
            · first | (simp [HQ.out, E138.out, E147.out, C155.out, C157.out]; done) | rfl
            · repeat (first | exact F2.out.low | refine below_set ?_ (by omega) | refine below_alloc ?_ _ | refine pw_below_drewN ?_ _ | refine below_drew1 ?_)
        | true =>
          have dc156 : decide (4096 < size) = false := by simp at c156 ⊢; omega
          have C157 := Aside0.mk c156
          clear c156
          cases c158 : decide (0 ≤ base) with
          | false =>
            have dc158 : decide (base < 0) = true := by simp at c158 ⊢; omega
            have C159 := Aside0.mk c158
            clear c158
            go_wp2
            go_region
            all_goals
              go_wp2
              repeat (go_quiet (fail); try go_wp2)
              go_ret
              refine ⟨?_, ?_⟩
              · first | (simp [HQ.out, E138.out, E147.out, C155.out, C157.out, C159.out]; done) | rfl
              · repeat (first | exact F2.out.low | refine below_set ?_ (by omega) | refine below_alloc ?_ _ | refine pw_below_drewN ?_ _ | refine below_drew1 ?_)
          | true =>
            have dc158 : decide (base < 0) = false := by simp at c158 ⊢; omega
            have C159 := Aside0.mk c158
            clear c158
            have hwr : wrap64 (words - size) = words - size := by have g1 := C155.out; have g2 := C157.out; simp only [decide_eq_true_eq] at g1 g2; unfold wrap64; omega
            cases c160 : decide (base ≤ words - size) with
            | false =>
              have dc160 : decide (words - size < base) = true := by simp at c160 ⊢; omega
              have C161 := Aside0.mk c160
              clear c160
              go_wp2
              go_region
              all_goals
                go_wp2
                repeat (go_quiet (fail); try go_wp2)
                go_ret
                refine ⟨?_, ?_⟩
                · first | (simp [HQ.out, E138.out, E147.out, C155.out, C157.out, C159.out, C161.out]; done) | rfl
                · repeat (first | exact F2.out.low | refine below_set ?_ (by omega) | refine below_alloc ?_ _ | refine pw_below_drewN ?_ _ | refine below_drew1 ?_)
            | true =>
              have dc160 : decide (words - size < base) = false := by simp at c160 ⊢; omega
              have C161 := Aside0.mk c160
              clear c160
              go_wp2
              go_region
              all_goals
                go_wp2
                repeat (go_quiet (fail); try go_wp2)
                go_ret
                refine ⟨?_, ?_⟩
                · first | (simp [HQ.out, E138.out, E147.out, C155.out, C157.out, C159.out, C161.out]; done) | rfl
                · repeat (first | exact F2.out.low | refine below_set ?_ (by omega) | refine below_alloc ?_ _ | refine pw_below_drewN ?_ _ | refine below_drew1 ?_)

set_option maxHeartbeats 8000000 in
set_option maxRecDepth 100000 in
theorem fits_8 (d a b k base size n f regs words : Int) (w : World) (hw0 : 0 ≤ words) (hw1 : words ≤ 1048576) (q : Bool) (hq : q = (isB regs d && ((a == 0) && ((b == 0) && ((k == 0) && ((base == 0) && ((size == 0) && (n == 0)))))))) :
    Calls Try.prog 81 #[.agg #[.int .i64 8, .int .i64 d, .int .i64 a, .int .i64 b, .int .i64 k, .int .i64 base, .int .i64 size, .int .u32 n], .int .i64 f, .int .i64 regs, .int .i64 words] w fun e w' => e = .returned (.bool q) ∧ Below w.heap.size w w' := by
  have HQ := Aside0.mk hq
  clear hq
  have HS := Aside0.mk (show seedcornref24_Sets.f 8 d a b k base size n = some d by simp [seedcornref24_Sets.f])
  have HU := Aside0.mk (show seedcornref24_Uses.f 1 8 d a b k base size n = some [] by simp [seedcornref24_Uses.f, seedcornref24_Uses.j0])
  have F0 := Aside0.mk (FB.start w 8 d a b k base size n)
  cases h162 : isB regs d with
  | false =>
    have H163 := Aside0.mk (show seedcornref24_within.f d regs = some false by rw [within_is, h162])
    have E164 := Aside0.mk h162
    clear h162
    by_cases hd0 : 0 ≤ d
    · skip
      go_enter Try.func81, Try.ntmps81
      go_wp2_with fail
      with_reducible refine (seedcornref24_Sets.calls _ _ _ _ _ _ _ _ d _ HS.out).mono ?_
      rintro e ws ⟨rfl, hb⟩
      have F1 := Aside0.mk (F0.out.move hb)
      clear hb F0
      obtain ⟨x0, x1, x2, x3, x4, x5, x6, x7⟩ := F1.out.cells
      obtain ⟨y0, y1, y2, y3, y4, y5, y6, y7⟩ := F1.out.want
      obtain ⟨f1, f2, f3, f4, f5, f6, f7⟩ := F1.out.free
      go_wp2_with fail
      with_reducible refine (seedcornref24_within.calls d regs false _ H163.out).mono ?_
      rintro e w165 ⟨rfl, hd166⟩
      obtain ⟨kk167, rfl⟩ := hd166.out
      clear hd166
      go_wp2
      go_ret
      refine ⟨?_, ?_⟩
      · first | (simp [HQ.out, E164.out]; done) | rfl
      · repeat (first | exact F1.out.low | refine below_set ?_ (by omega) | refine below_alloc ?_ _ | refine pw_below_drewN ?_ _ | refine below_drew1 ?_)
    · have hd1 : d < 0 := by omega
      clear hd0
      have hd2 : decide (0 ≤ d) = false := by simp; omega
      go_enter Try.func81, Try.ntmps81
      go_wp2_with fail
      with_reducible refine (seedcornref24_Sets.calls _ _ _ _ _ _ _ _ d _ HS.out).mono ?_
      rintro e ws ⟨rfl, hb⟩
      have F1 := Aside0.mk (F0.out.move hb)
      clear hb F0
      obtain ⟨x0, x1, x2, x3, x4, x5, x6, x7⟩ := F1.out.cells
      obtain ⟨y0, y1, y2, y3, y4, y5, y6, y7⟩ := F1.out.want
      obtain ⟨f1, f2, f3, f4, f5, f6, f7⟩ := F1.out.free
      go_wp2_with fail
      with_reducible refine (seedcornref24_within.calls d regs false _ H163.out).mono ?_
      rintro e w168 ⟨rfl, hd169⟩
      obtain ⟨kk170, rfl⟩ := hd169.out
      clear hd169
      go_wp2
      go_ret
      refine ⟨?_, ?_⟩
      · first | (simp [HQ.out, E164.out]; done) | rfl
      · repeat (first | exact F1.out.low | refine below_set ?_ (by omega) | refine below_alloc ?_ _ | refine pw_below_drewN ?_ _ | refine below_drew1 ?_)
  | true =>
    have H163 := Aside0.mk (show seedcornref24_within.f d regs = some true by rw [within_is, h162])
    have E164 := Aside0.mk h162
    clear h162
    have hd0 : 0 ≤ d := by have g := E164.out; simp [isB] at g; omega
    go_enter Try.func81, Try.ntmps81
    go_wp2_with fail
    with_reducible refine (seedcornref24_Sets.calls _ _ _ _ _ _ _ _ d _ HS.out).mono ?_
    rintro e ws ⟨rfl, hb⟩
    have F1 := Aside0.mk (F0.out.move hb)
    clear hb F0
    obtain ⟨x0, x1, x2, x3, x4, x5, x6, x7⟩ := F1.out.cells
    obtain ⟨y0, y1, y2, y3, y4, y5, y6, y7⟩ := F1.out.want
    obtain ⟨f1, f2, f3, f4, f5, f6, f7⟩ := F1.out.free
    go_wp2_with fail
    with_reducible refine (seedcornref24_within.calls d regs true _ H163.out).mono ?_
    rintro e w171 ⟨rfl, hd172⟩
    obtain ⟨kk173, rfl⟩ := hd172.out
    clear hd172
    go_wp2_with fail
    with_reducible refine (seedcornref24_Uses.calls 1 _ _ _ _ _ _ _ _ [] _ HU.out).mono ?_
    rintro e w2 ⟨v0, rfl, hR, hb2⟩
    have F2 : Aside0 (FB w w2 8 d a b k base size n d 0 0 0 0 0 0) := by refine ⟨FB.move ?_ hb2⟩; repeat (first | exact F1.out | (with_reducible refine FB.drewN ?_ _) | (with_reducible refine FB.drew ?_) | (with_reducible refine FB.set1 (o1 := 0) ?_ _))
    clear x0 x1 x2 x3 x4 x5 x6 x7 y0 y1 y2 y3 y4 y5 y6 y7 f1 f2 f3 f4 f5 f6 f7 F1 hb2
    obtain ⟨x0, x1, x2, x3, x4, x5, x6, x7⟩ := F2.out.cells
    obtain ⟨y0, y1, y2, y3, y4, y5, y6, y7⟩ := F2.out.want
    obtain ⟨f1, f2, f3, f4, f5, f6, f7⟩ := F2.out.free
    obtain ⟨Au, cu, rfl, hcu, hCu⟩ := Kd.R_reads hR
    clear hR hCu
    go_wp2_with fail
    refine wp_loop_rounds 1 ?_
    rw [rounds_succ]
    go_wp2
    repeat (go_quiet (fail); try go_wp2)
    go_ret
    refine ⟨?_, ?_⟩
    · first | (simp [HQ.out, E164.out]; done) | rfl
    · repeat (first | exact F2.out.low | refine below_set ?_ (by omega) | refine below_alloc ?_ _ | refine pw_below_drewN ?_ _ | refine below_drew1 ?_)

set_option maxHeartbeats 8000000 in
set_option maxRecDepth 100000 in
theorem fits_9 (d a b k base size n f regs words : Int) (w : World) (hw0 : 0 ≤ words) (hw1 : words ≤ 1048576) (q : Bool) (hq : q = (isB regs a && ((d == 0) && ((b == 0) && ((k == 0) && ((base == 0) && ((size == 0) && (n == 0)))))))) :
    Calls Try.prog 81 #[.agg #[.int .i64 9, .int .i64 d, .int .i64 a, .int .i64 b, .int .i64 k, .int .i64 base, .int .i64 size, .int .u32 n], .int .i64 f, .int .i64 regs, .int .i64 words] w fun e w' => e = .returned (.bool q) ∧ Below w.heap.size w w' := by
  have HQ := Aside0.mk hq
  clear hq
  have HS := Aside0.mk (show seedcornref24_Sets.f 9 d a b k base size n = some (-1) by simp [seedcornref24_Sets.f])
  have HU := Aside0.mk (show seedcornref24_Uses.f 1 9 d a b k base size n = some [a] by simp [seedcornref24_Uses.f, seedcornref24_Uses.j0])
  have F0 := Aside0.mk (FB.start w 9 d a b k base size n)
  go_enter Try.func81, Try.ntmps81
  go_wp2_with fail
  with_reducible refine (seedcornref24_Sets.calls _ _ _ _ _ _ _ _ (-1) _ HS.out).mono ?_
  rintro e ws ⟨rfl, hb⟩
  have F1 := Aside0.mk (F0.out.move hb)
  clear hb F0
  obtain ⟨x0, x1, x2, x3, x4, x5, x6, x7⟩ := F1.out.cells
  obtain ⟨y0, y1, y2, y3, y4, y5, y6, y7⟩ := F1.out.want
  obtain ⟨f1, f2, f3, f4, f5, f6, f7⟩ := F1.out.free
  go_wp2_with fail
  with_reducible refine (seedcornref24_Uses.calls 1 _ _ _ _ _ _ _ _ [a] _ HU.out).mono ?_
  rintro e w2 ⟨v0, rfl, hR, hb2⟩
  have F2 : Aside0 (FB w w2 9 d a b k base size n 0 0 0 0 0 0 0) := by refine ⟨FB.move ?_ hb2⟩; repeat (first | exact F1.out | (with_reducible refine FB.drewN ?_ _) | (with_reducible refine FB.drew ?_) | (with_reducible refine FB.set1 (o1 := 0) ?_ _))
  clear x0 x1 x2 x3 x4 x5 x6 x7 y0 y1 y2 y3 y4 y5 y6 y7 f1 f2 f3 f4 f5 f6 f7 F1 hb2
  obtain ⟨x0, x1, x2, x3, x4, x5, x6, x7⟩ := F2.out.cells
  obtain ⟨y0, y1, y2, y3, y4, y5, y6, y7⟩ := F2.out.want
  obtain ⟨f1, f2, f3, f4, f5, f6, f7⟩ := F2.out.free
  obtain ⟨Au, cu, rfl, hcu, hCu⟩ := Kd.R_reads hR
  obtain ⟨ad, rfl, u0⟩ := Kd.at_int hCu 0 (by omega) (by simp)
  have U0 : w2.cell? ad = some (.int .i64 a) := by simpa [rd, Addr.add] using u0
  clear hR hCu u0
  go_wp2_with fail
  refine wp_loop_rounds 2 ?_
  rw [rounds_succ]
  go_wp2_with fail
  cases h174 : isB regs a with
  | false =>
    have H175 := Aside0.mk (show seedcornref24_within.f a regs = some false by rw [within_is, h174])
    have E176 := Aside0.mk h174
    clear h174
    with_reducible refine (seedcornref24_within.calls a regs false _ H175.out).mono ?_
    rintro e w177 ⟨rfl, hd178⟩
    obtain ⟨kk179, rfl⟩ := hd178.out
    clear hd178
    go_wp2
    go_ret
    refine ⟨?_, ?_⟩
    · first | (simp [HQ.out, E176.out]; done) | rfl
    · repeat (first | exact F2.out.low | refine below_set ?_ (by omega) | refine below_alloc ?_ _ | refine pw_below_drewN ?_ _ | refine below_drew1 ?_)
  | true =>
    have H175 := Aside0.mk (show seedcornref24_within.f a regs = some true by rw [within_is, h174])
    have E176 := Aside0.mk h174
    clear h174
    with_reducible refine (seedcornref24_within.calls a regs true _ H175.out).mono ?_
    rintro e w180 ⟨rfl, hd181⟩
    obtain ⟨kk182, rfl⟩ := hd181.out
    clear hd181
    go_wp2
    rw [rounds_succ]
    go_wp2
    repeat (go_quiet (fail); try go_wp2)
    go_ret
    refine ⟨?_, ?_⟩
    · first | (simp [HQ.out, E176.out]; done) | rfl
    · repeat (first | exact F2.out.low | refine below_set ?_ (by omega) | refine below_alloc ?_ _ | refine pw_below_drewN ?_ _ | refine below_drew1 ?_)

set_option maxHeartbeats 8000000 in
set_option maxRecDepth 100000 in
theorem fits_10 (d a b k base size n f regs words : Int) (w : World) (hw0 : 0 ≤ words) (hw1 : words ≤ 1048576) (q : Bool) (hq : q = (isB f base && ((d == 0) && ((a == 0) && ((b == 0) && ((k == 0) && ((size == 0) && (n == 0)))))))) :
    Calls Try.prog 81 #[.agg #[.int .i64 10, .int .i64 d, .int .i64 a, .int .i64 b, .int .i64 k, .int .i64 base, .int .i64 size, .int .u32 n], .int .i64 f, .int .i64 regs, .int .i64 words] w fun e w' => e = .returned (.bool q) ∧ Below w.heap.size w w' := by
  have HQ := Aside0.mk hq
  clear hq
  have HS := Aside0.mk (show seedcornref24_Sets.f 10 d a b k base size n = some (-1) by simp [seedcornref24_Sets.f])
  have HU := Aside0.mk (show seedcornref24_Uses.f 1 10 d a b k base size n = some [] by simp [seedcornref24_Uses.f, seedcornref24_Uses.j0])
  have F0 := Aside0.mk (FB.start w 10 d a b k base size n)
  go_enter Try.func81, Try.ntmps81
  go_wp2_with fail
  with_reducible refine (seedcornref24_Sets.calls _ _ _ _ _ _ _ _ (-1) _ HS.out).mono ?_
  rintro e ws ⟨rfl, hb⟩
  have F1 := Aside0.mk (F0.out.move hb)
  clear hb F0
  obtain ⟨x0, x1, x2, x3, x4, x5, x6, x7⟩ := F1.out.cells
  obtain ⟨y0, y1, y2, y3, y4, y5, y6, y7⟩ := F1.out.want
  obtain ⟨f1, f2, f3, f4, f5, f6, f7⟩ := F1.out.free
  go_wp2_with fail
  with_reducible refine (seedcornref24_Uses.calls 1 _ _ _ _ _ _ _ _ [] _ HU.out).mono ?_
  rintro e w2 ⟨v0, rfl, hR, hb2⟩
  have F2 : Aside0 (FB w w2 10 d a b k base size n 0 0 0 0 0 0 0) := by refine ⟨FB.move ?_ hb2⟩; repeat (first | exact F1.out | (with_reducible refine FB.drewN ?_ _) | (with_reducible refine FB.drew ?_) | (with_reducible refine FB.set1 (o1 := 0) ?_ _))
  clear x0 x1 x2 x3 x4 x5 x6 x7 y0 y1 y2 y3 y4 y5 y6 y7 f1 f2 f3 f4 f5 f6 f7 F1 hb2
  obtain ⟨x0, x1, x2, x3, x4, x5, x6, x7⟩ := F2.out.cells
  obtain ⟨y0, y1, y2, y3, y4, y5, y6, y7⟩ := F2.out.want
  obtain ⟨f1, f2, f3, f4, f5, f6, f7⟩ := F2.out.free
  obtain ⟨Au, cu, rfl, hcu, hCu⟩ := Kd.R_reads hR
  clear hR hCu
  go_wp2_with fail
  refine wp_loop_rounds 1 ?_
  rw [rounds_succ]
  go_wp2_with fail
  cases h183 : isB f base with
  | false =>
    have H184 := Aside0.mk (show seedcornref24_within.f base f = some false by rw [within_is, h183])
    have E185 := Aside0.mk h183
    clear h183
    with_reducible refine (seedcornref24_within.calls base f false _ H184.out).mono ?_
    rintro e w186 ⟨rfl, hd187⟩
    obtain ⟨kk188, rfl⟩ := hd187.out
    clear hd187
    go_wp2
    go_ret
    refine ⟨?_, ?_⟩
    · first | (simp [HQ.out, E185.out]; done) | rfl
    · repeat (first | exact F2.out.low | refine below_set ?_ (by omega) | refine below_alloc ?_ _ | refine pw_below_drewN ?_ _ | refine below_drew1 ?_)
  | true =>
    have H184 := Aside0.mk (show seedcornref24_within.f base f = some true by rw [within_is, h183])
    have E185 := Aside0.mk h183
    clear h183
    with_reducible refine (seedcornref24_within.calls base f true _ H184.out).mono ?_
    rintro e w189 ⟨rfl, hd190⟩
    obtain ⟨kk191, rfl⟩ := hd190.out
    clear hd190
    go_wp2
    go_ret
    refine ⟨?_, ?_⟩
    · first | (simp [HQ.out, E185.out]; done) | rfl
    · repeat (first | exact F2.out.low | refine below_set ?_ (by omega) | refine below_alloc ?_ _ | refine pw_below_drewN ?_ _ | refine below_drew1 ?_)

set_option maxHeartbeats 8000000 in
set_option maxRecDepth 100000 in
theorem fits_none (op d a b k base size n f regs words : Int) (w : World) (h : op < 1 ∨ 10 < op) :
    Calls Try.prog 81 #[.agg #[.int .i64 op, .int .i64 d, .int .i64 a, .int .i64 b, .int .i64 k, .int .i64 base, .int .i64 size, .int .u32 n], .int .i64 f, .int .i64 regs, .int .i64 words] w fun e w' => e = .returned (.bool false) ∧ Below w.heap.size w w' := by
  by_cases h1 : op < 1
  · have b1 : decide (op < 1) = true := by simpa using h1
    clear h h1
    go_enter Try.func81, Try.ntmps81
    go_wp2
    repeat (go_quiet (fail); try go_wp2)
    go_ret
    exact ⟨rfl, by repeat (first | exact Below.refl _ _ | refine below_alloc ?_ _ | refine pw_below_drewN ?_ _ | refine below_drew1 ?_)⟩
  · have b1 : decide (op < 1) = false := by simpa using h1
    have b2 : decide (10 < op) = true := by simp; omega
    clear h h1
    go_enter Try.func81, Try.ntmps81
    go_wp2
    repeat (go_quiet (fail); try go_wp2)
    go_ret
    exact ⟨rfl, by repeat (first | exact Below.refl _ _ | refine below_alloc ?_ _ | refine pw_below_drewN ?_ _ | refine below_drew1 ?_)⟩
def seedcornref24_fits.f (k : Nat) (a0_0 a0_1 a0_2 a0_3 a0_4 a0_5 a0_6 a0_7 a1 a2 a3 : Int) : Option Bool := if 0 ≤ a3 ∧ a3 ≤ 1048576 then some (fitsB a0_0 a0_1 a0_2 a0_3 a0_4 a0_5 a0_6 a0_7 a1 a2 a3) else none
theorem seedcornref24_fits.mono : ∀ a0 a1 a2 a3 a4 a5 a6 a7 a8 a9 a10 k, LeO (seedcornref24_fits.f k a0 a1 a2 a3 a4 a5 a6 a7 a8 a9 a10) (seedcornref24_fits.f (k + 1) a0 a1 a2 a3 a4 a5 a6 a7 a8 a9 a10) := fun _ _ _ _ _ _ _ _ _ _ _ _ => LeO.refl _
theorem seedcornref24_fits.calls (k : Nat) (a0_0 : Int) (a0_1 : Int) (a0_2 : Int) (a0_3 : Int) (a0_4 : Int) (a0_5 : Int) (a0_6 : Int) (a0_7 : Int) (a1 : Int) (a2 : Int) (a3 : Int) (r : Bool) (w : World) (h : seedcornref24_fits.f k a0_0 a0_1 a0_2 a0_3 a0_4 a0_5 a0_6 a0_7 a1 a2 a3 = some r) :
    Calls Try.prog 81 #[.agg #[.int .i64 a0_0, .int .i64 a0_1, .int .i64 a0_2, .int .i64 a0_3, .int .i64 a0_4, .int .i64 a0_5, .int .i64 a0_6, .int .u32 a0_7], .int .i64 a1, .int .i64 a2, .int .i64 a3] w fun e w' => e = .returned (.bool r) ∧ Below w.heap.size w w' := by
  unfold seedcornref24_fits.f at h
  by_cases hw : 0 ≤ a3 ∧ a3 ≤ 1048576
  case neg => rw [if_neg hw] at h; cases h
  rw [if_pos hw] at h
  injection h with h
  obtain ⟨hw0, hw1⟩ := hw
  by_cases ho : a0_0 < 1 ∨ 10 < a0_0
  · have hr : r = false := by
      rw [← h]
      simp [fitsB, show a0_0 ≠ 1 by omega, show a0_0 ≠ 2 by omega, show a0_0 ≠ 3 by omega, show a0_0 ≠ 4 by omega, show a0_0 ≠ 5 by omega, show a0_0 ≠ 6 by omega, show a0_0 ≠ 7 by omega, show a0_0 ≠ 8 by omega, show a0_0 ≠ 9 by omega, show a0_0 ≠ 10 by omega]
    rw [hr]
    exact fits_none _ _ _ _ _ _ _ _ _ _ _ _ ho
  obtain e | e | e | e | e | e | e | e | e | e : a0_0 = 1 ∨ a0_0 = 2 ∨ a0_0 = 3 ∨ a0_0 = 4 ∨ a0_0 = 5 ∨ a0_0 = 6 ∨ a0_0 = 7 ∨ a0_0 = 8 ∨ a0_0 = 9 ∨ a0_0 = 10 := by omega
  · subst e
    exact fits_1 _ _ _ _ _ _ _ _ _ _ w hw0 hw1 r (by rw [← h]; simp [fitsB])
  · subst e
    exact fits_2 _ _ _ _ _ _ _ _ _ _ w hw0 hw1 r (by rw [← h]; simp [fitsB])
  · subst e
    exact fits_3 _ _ _ _ _ _ _ _ _ _ w hw0 hw1 r (by rw [← h]; simp [fitsB])
  · subst e
    exact fits_4 _ _ _ _ _ _ _ _ _ _ w hw0 hw1 r (by rw [← h]; simp [fitsB])
  · subst e
    exact fits_5 _ _ _ _ _ _ _ _ _ _ w hw0 hw1 r (by rw [← h]; simp [fitsB])
  · subst e
    exact fits_6 _ _ _ _ _ _ _ _ _ _ w hw0 hw1 r (by rw [← h]; simp [fitsB])
  · subst e
    exact fits_7 _ _ _ _ _ _ _ _ _ _ w hw0 hw1 r (by rw [← h]; simp [fitsB])
  · subst e
    exact fits_8 _ _ _ _ _ _ _ _ _ _ w hw0 hw1 r (by rw [← h]; simp [fitsB])
  · subst e
    exact fits_9 _ _ _ _ _ _ _ _ _ _ w hw0 hw1 r (by rw [← h]; simp [fitsB])
  · subst e
    exact fits_10 _ _ _ _ _ _ _ _ _ _ w hw0 hw1 r (by rw [← h]; simp [fitsB])
end Go.Proofs.Ytocnkjhicbmmoaa.Q
