/- The functions whose contracts were proved by hand. -/
import Derived.Test.YtpbamfoaoeicgaaGiven
